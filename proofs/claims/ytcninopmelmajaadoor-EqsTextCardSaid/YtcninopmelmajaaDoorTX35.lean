/-
  Texts laid together (RqTm, RqEnv, RqLook, RqSt, RqKp6): laws and walks, with their conditions.
-/
import Derived.Test.YtcninopmelmajaaDoorTX34
set_option maxHeartbeats 8000000
set_option maxRecDepth 1000000
namespace Go.Proofs.YtcninopmelmajaaDoor
open Go.Lib (hid)
section
open Go.RowKit
namespace Em
def KpQ (R:Nat->Prop) (w:World) (most:Nat) (r:Nat × Dk) (x:Ending) (w':World):Prop:=∃ lo ln lc oo on oc inn,x=.returned (.tuple #[gK lo ln lc r.2.next most oo on oc inn,.int .i64 r.1])/\fH (fun k=>R k∨w.heap.size<=k) w' most r.2 lo ln lc oo on oc/\ah w w'
def KpA (most:Nat) (h:Nd) (ps:To) (ar:Ev):Prop:=∀ (R:Nat->Prop) (W:World) (d:Dk) (inn:Int) (lo:Option Addr) (ln lc:Nat) (oo:Option Addr) (on oc:Nat) (o1:Option Addr) (l1 c1:Nat) (o2:Option Addr) (l2 c2:Nat) (eo:Option Addr) (en ec:Nat),
 fH R W most d lo ln lc oo on oc->aB R W o1 l1 h.tp->bC R W o2 l2 ps->EvS R W eo en ar->en<=ec->(jf most h (dJ most ps) (lq most ar) d).2.next<=1000000 ->
 Calls Tryd.prog 33 #[gK lo ln lc d.next most oo on oc inn,bP h o1 l1 c1 o2 l2 c2,.slice eo en ec] W (KpQ R W most (jf most h (dJ most ps) (lq most ar) d))
def Good (most:Nat):Ev->Prop
 | .nil=>True
 | .cons _ _ ag h ps ar r=>(ag=true->KpA most h ps ar)/\Good most r
theorem Good.snoc {most:Nat} {nm:ByteArray} {v:Nat} {ag:Bool} {h:Nd} {ps:To} {ar:Ev} (hk:ag=true->KpA most h ps ar):∀ {e:Ev},Good most e->Good most (e.snoc nm v ag h ps ar)
 | .nil,_=>⟨hk,trivial⟩
 | .cons _ _ _ _ _ _ _,he=>⟨he.1,Good.snoc hk he.2⟩
def iU (most:Nat) (h:Nd) (ps:To):Prop:=∀ (R:Nat->Prop) (W:World) (d:Dk) (inn:Int) (lo:Option Addr) (ln lc:Nat) (oo:Option Addr) (on oc:Nat) (o1:Option Addr) (l1 c1:Nat) (o2:Option Addr) (l2 c2:Nat) (eo:Option Addr) (en ec:Nat) (ev:Ev),
 fH R W most d lo ln lc oo on oc->aB R W o1 l1 h.tp->bC R W o2 l2 ps->EvS R W eo en ev->en<=ec->en+ps.size<=100000->Good most ev->KU h ps.length->rH ps->(dZ most h ps (lq most ev) d).2.next<=1000000 ->
 Calls Tryd.prog 20 #[gK lo ln lc d.next most oo on oc inn,bP h o1 l1 c1 o2 l2 c2,.slice eo en ec] W (sW R W most (dZ most h ps (lq most ev) d).2)
theorem mY (most:Nat):∀ e:Ev,Uk (lq most e)
 | .nil=>fun x hx=>by cases hx
 | .cons nm v ag h ps ar r=>fun x hx=>by
  unfold lq at hx;rcases List.mem_append.1 hx with hx | hx
  ·exact mY most r x hx
  ·rw [List.mem_singleton.1 hx]
   by_cases hg:ag=true
   ·rw [if_pos hg];exact Dp most h (nC most ps) (mY most ar)
   ·rw [if_neg hg];exact NR.pure v
theorem QJ (most:Nat) (h:Nd) (ps:To) (vs:List (aP->Dm Nat)) (e:aP) (own:Nat) (d:Dk):(jM most h ps vs e own d).1=own:=by
 unfold jM
 repeat' split
 all_goals rfl
theorem kX (most:Nat) (h:Nd) (ps:To) (e:aP) (d:Dk):(dZ most h ps e d).1=d.next:=by
 show (sQ most d.next (jM most h ps (dJ most ps) e d.next) { d with next:=d.next+1 }).1=_
 unfold sQ
 split
 ·rfl
 ·exact QJ _ _ _ _ _ _ _
theorem yG (most:Nat) (h:Nd) (ps:To) {e:aP} (he:Uk e) (d:Dk):d.next+1<=(dZ most h ps e d).2.next :=
 NR.ov most d.next (JO most h ps (nC most ps) he d.next) { d with next:=d.next+1 }
theorem MS {most:Nat} {h:Nd} {ps:To} {e:aP} {d:Dk} (hd:most < d.L.length):(dZ most h ps e d).2={ d with next:=d.next+1 }:=by
 show (sQ most d.next (jM most h ps (dJ most ps) e d.next) { d with next:=d.next+1 }).2=_
 unfold sQ;rw [if_pos hd]
theorem iR {most:Nat} {h:Nd} {ps:To} {e:aP} {d:Dk} (hd:¬ most < d.L.length):(dZ most h ps e d).2=(jM most h ps (dJ most ps) e d.next { d with next:=d.next+1 }).2:=by
 show (sQ most d.next (jM most h ps (dJ most ps) e d.next) { d with next:=d.next+1 }).2=_
 unfold sQ;rw [if_neg hd]
def RB (R:Nat->Prop) (B k:Nat):Prop:=R k/\k < B∨B+1+1 < k
def TmS (R:Nat->Prop) (w:World) (B:Nat) (d1:Dk) (most:Nat) (h:Nd) (o1:Option Addr) (l1 c1:Nat) (o2:Option Addr) (l2 c2:Nat) (lo:Option Addr) (ln lc:Nat) (inn:Int) (wx:World):Prop :=
 ∃ oo on oc,wx.heap[B]?=some (.cells (r5 lo ln lc d1.next most oo on oc inn) 61 (0,0))/\wx.heap[B+1]?=some (.cells (cells9 h o1 l1 c1 o2 l2 c2) 30 (0,0))/\wx.heap[B+1+1]?=some (.cells #[.slice none 0 0,.int .i64 0,.int .i64 0,.slice none 0 0,.int .i64 0] 61 (0,0)) /\
  fH (RB R B) wx most d1 lo ln lc oo on oc/\ah w wx
theorem Vs {w:World} {base size:Nat} {e:TypeId} {o:Option Addr} {n c m:Nat} {xs:List Value} (h:w.ownsRow base e size (.slice o n c) m xs):m<=c:=(uP h).1
theorem X7 {w1 w3 w4:World} {B g4 on c3:Nat} {o3:Option Addr} {c0:Obj} (hz:B+1+1 < w1.heap.size) (hq3:ah w1 w3) (iE:(Value.slice o3 on c3).ownBlock=(Value.slice (some ⟨w1.heap.size,0,none⟩) 0 0).ownBlock∨(Value.slice o3 on c3).ownBlock=some (w1.alloc c0).heap.size) (hf4:Fr (fun k=>(Value.slice o3 on c3).ownBlock=some k) w3 w4) (hg4:(Value.slice o3 on c3).ownBlock=some g4∨w3.heap.size<=g4):ah w1 w4/\B+1+1 < g4:=by
 have hw1:(w1.alloc c0).heap.size=w1.heap.size+1:=by simp
 have hob:∀ k,(Value.slice o3 on c3).ownBlock=some k->w1.heap.size<=k:=fun k hk=>by
  rcases iE with e | e
  ·rw [e] at hk;simp [Value.ownBlock] at hk;omega
  ·rw [e] at hk;cases hk;omega
 refine ⟨Fr.trans' hq3 hf4 (fun i hi e=>by have:=hob i e;omega),?_⟩;rcases hg4 with e | e
 ·have:=hob _ e;omega
 ·have:=hq3.size;omega
theorem X8 {R : Nat -> Prop} {W w1 w4 : World} {B most : Nat} {d1 : Dk} {own : Nat} {h : Nd} {o1 : Option Addr} {l1 c1 : Nat} {o2 : Option Addr} {l2 c2 : Nat} {lo : Option Addr} {ln lc : Nat} {oo : Option Addr} {on oc : Nat} {inn : Int} {g c : Nat} {vl : List Int} (hk : fH (RB R B) w1 most d1 lo ln lc oo on oc) (hon : on + 1 <= d1.next) (hq1 : ah W w1) (hq : ah w1 w4) (hB : W.heap.size = B)
    (hb0:w1.heap[B]?=some (.cells (r5 lo ln lc d1.next most oo on oc inn) 61 (0,0))) (hb1:w1.heap[B+1]?=some (.cells (cells9 h o1 l1 c1 o2 l2 c2) 30 (0,0))) (hb2:w1.heap[B+1+1]?=some (.cells #[.slice none 0 0,.int .i64 0,.int .i64 0,.slice none 0 0,.int .i64 0] 61 (0,0)))
    (ho:w4.ownsRow 0 3 1 (.slice (some ⟨g,0,none⟩) (on+1) c) (on+1) (vl.map (Value.int .i64)++[.int .i64 (own:Int)])) (hvl:vl.length=on) (hg:B+1+1 < g) :
    TmS R W B d1 most h o1 l1 c1 o2 l2 c2 lo ln lc inn (w4.setCell ⟨B,3,none⟩ (.slice (some ⟨g,0,none⟩) (on+1) c)):=by
 have hs:=Fr.setCell (fun i=>i=B) w4 ⟨B,3,none⟩ (.slice (some ⟨g,0,none⟩) (on+1) c) rfl;have hf:Fr (fun i=>i=B) w1 (w4.setCell ⟨B,3,none⟩ (.slice (some ⟨g,0,none⟩) (on+1) c)):=(hq.mono (fun _ _ h=>h.elim)).trans hs;have hR:∀ k,k < w1.heap.size->RB R B k->RB R B k/\¬ k=B:=fun k _ h=>⟨h,fun e=>by rcases h with h | h<;>omega⟩
 have hk':=hk.fr hf hR;refine ⟨some ⟨g,0,none⟩,on+1,c,aF (i:=3) (au hq hb0),aC hs (by intro h;have h':B+1=B:=h;omega) (au hq hb1),aC hs (by intro h;have h':B+1+1=B:=h;omega) (au hq hb2),⟨hk'.len,hk'.cap,hk'.eqs,hk'.few,.inr ⟨g,0,rfl,.inr hg,vl++[(own:Int)],by simp [hvl],fun j x hj=>?_⟩,hon,(Vs ho)⟩,Fr.trans' hq1 hf (fun i hi e=>by have e':i=B:=e;omega)⟩;have hc:=ho.cells (g:=g) rfl j (.int .i64 x) (by
  have:=congrArg (Option.map (Value.int .i64)) hj;rw [<-List.getElem?_map] at this;simpa using this)
 rw [Addr.add_lit] at hc;exact (hs.aY (World.block_lt_of_cell? w4 _ hc) (by intro e;have e':g=B:=e;omega)).trans hc
theorem mV {R:Nat->Prop} {W w5 wf:World} {B most:Nat} {fin:Dk} {lo:Option Addr} {ln lc:Nat} {oo:Option Addr} {on oc:Nat} (hk:fH (RB R B) w5 most fin lo ln lc oo on oc) (hq:ah W w5) (hf:Fr (fun k=>k=B+1+1) w5 wf) (hB:W.heap.size=B):fH (fun k=>R k∨W.heap.size<=k) wf most fin lo ln lc oo on oc/\ah W wf :=
 ⟨hk.fr hf (fun k _ h=>⟨by rcases h with h | h;exact .inl h.1;exact .inr (by omega),fun e=>by have e':k=B+1+1:=e;rcases h with h | h<;>omega⟩),Fr.trans' hq hf (fun i hi e=>by have e':i=B+1+1:=e;omega)⟩
theorem iF {R:Nat->Prop} {w w':World} {B most:Nat} {fin:Dk} {lo:Option Addr} {ln lc:Nat} {oo:Option Addr} {on oc:Nat} (hk:fH (fun k=>RB R B k∨w.heap.size<=k) w' most fin lo ln lc oo on oc) (hz:B+1+1 < w.heap.size):fH (RB R B) w' most fin lo ln lc oo on oc :=
 hk.mono (fun k _ h=>h.elim id (fun h=>.inr (by omega)))
end Em
end
section
open Go.RowKit
namespace Em
theorem jd:Elem Tryd.prog 76 79 (.agg #[.string ⟨#[]⟩,.int .i64 0,.bool false,.int .i64 0,.string ⟨#[]⟩,.int .i64 0,.int .i64 0,.int .i64 0,.slice none 0 0,.slice none 0 0,.int .i64 0,.int .i64 0,.slice none 0 0]) 13 168 :=
 ⟨Tryd.underlying76,by kernel_rfl,by decide,by decide⟩
theorem EvS.row {R:Nat->Prop} {w:World} {o:Option Addr} {n:Nat} {e:Ev} (h:EvS R w o n e):∃ xs,oW R w xs e/\xs.length=n*13/\(∀ u∈xs,u.oneCell'=true)/\∀ j u,xs[j]?=some u->∃ b off,o=some ⟨b,off,none⟩/\w.cell? ⟨b,off+j,none⟩=some u:=by
 obtain ⟨h1,h2,h3⟩:=h;cases e with
 | nil=>exact ⟨[],rfl,by rw [h1];rfl,fun u hu=>(by cases hu),fun j u hj=>by simp at hj⟩
 | cons nm v ag h ps ar r =>
  obtain ⟨b,off,e,ha⟩:=h3 (by rw [h1];exact Nat.succ_pos _);obtain ⟨xs,k1,k2⟩:=sS.row _ b off ha;obtain ⟨k3,k4⟩:=oW.length _ _ k1;exact ⟨xs,k1,by rw [k3,h1],k4,fun j u hj=>⟨b,off,e,k2 j u hj⟩⟩
theorem X9 {T : Nat -> Prop} {w : World} {xs : List Value} {ev : Ev} {nm : ByteArray} {v : Nat} {ag : Bool} {h : Nd} {ps : To} {ar : Ev} {o1 : Option Addr} {l1 c1 : Nat} {o2 : Option Addr} {l2 c2 : Nat} {ao : Option Addr} {an ac : Nat} {o4 : Option Addr} {en c : Nat} (hx : oW T w xs ev) (hs : aB T w o1 l1 h.tp) (ht : bC T w o2 l2 ps) (he : EvS T w ao an ar) (hl : an <= ac)
    (ho:w.ownsRow 0 79 13 (.slice o4 (en+1) c) (en+1) (xs++(eX nm v ag h o1 l1 c1 o2 l2 c2 ao an ac).toList)) (hn:en=ev.length) (hz:en+1<=1000000) (hg:∀ k,(Value.slice o4 (en+1) c).ownBlock=some k->T k):EvS T w o4 (en+1) (ev.snoc nm v ag h ps ar)/\en+1<=c:=by
 obtain ⟨hc,hh⟩:=uP ho;obtain ⟨g,rfl⟩:=hh (by omega);refine ⟨⟨by rw [Ev.Ai,hn],hz,fun _=>⟨g,0,rfl,oW.at (hg g rfl) _ _ 0 (oW.snoc (c1:=c1) (c2:=c2) hs ht he hl _ _ hx) (fun j u hj=>?_)⟩⟩,hc⟩;have:=ho.cells (g:=g) rfl j u hj;simpa [Addr.add_lit] using this
end Em
end
section
open Go.RowKit
namespace Em
abbrev En:Type:=ByteArray × Nat × Bool × Nd × To × Ev
abbrev en0:En:=(⟨#[]⟩,0,false,nd0,.nil,.nil)
def pJ:Ev->ByteArray->En->En
 | .nil,_,a=>a
 | .cons nm v ag h ps ar r,s,a=>pJ r s (if nm=s then (nm,v,ag,h,ps,ar) else a)
def Ou (most:Nat) (a:En):Dm Nat:=if a.2.2.1 then jf most a.2.2.2.1 (dJ most a.2.2.2.2.1) (lq most a.2.2.2.2.2) else jg a.2.1
def lookO:aP->ByteArray->Dm Nat->Dm Nat
 | [],_,x=>x
 | y::r,s,x=>if y.1=s then y.2 else lookO r s x
theorem Gh:∀ (e:aP) (s:ByteArray),lookO e s (jg 0)=jA e s
 | [],_=>rfl
 | y::r,s=>by unfold lookO jA;rw [Gh r s]
theorem Gi (y:ByteArray × Dm Nat) (s:ByteArray) (x:Dm Nat):∀ e:aP,lookO (e++[y]) s x=lookO e s (if y.1=s then y.2 else x)
 | []=>rfl
 | z::r=>by
  show (if z.1=s then z.2 else lookO (r++[y]) s x)=(if z.1=s then z.2 else lookO r s _)
  rw [Gi y s x r]
theorem Gj (most:Nat) (s:ByteArray):∀ (e:Ev) (a:En),lookO (lq most e) s (Ou most a)=Ou most (pJ e s a)
 | .nil,a=>rfl
 | .cons nm v ag h ps ar r,a=>by
  unfold lq pJ;rw [Gi,<-Gj most s r]
  congr 1
  by_cases hn:nm=s
  ·rw [if_pos hn,if_pos hn];rfl
  ·rw [if_neg hn,if_neg hn]
theorem MV (most:Nat) (e:Ev) (s:ByteArray):jA (lq most e) s=Ou most (pJ e s en0):=by
 rw [<-Gj,<-Gh];rfl
def Ov (most:Nat) (a:En):Prop:=a.2.2.1=true->KpA most a.2.2.2.1 a.2.2.2.2.1 a.2.2.2.2.2
theorem Good.last {most:Nat} (s:ByteArray):∀ {e:Ev} {a:En},Good most e->Ov most a->Ov most (pJ e s a)
 | .nil,_,_,ha=>ha
 | .cons nm v ag h ps ar r,a,he,ha=>by
  unfold pJ;refine Good.last s he.2 ?_
  by_cases hn:nm=s
  ·rw [if_pos hn];exact he.1
  ·rw [if_neg hn];exact ha
theorem Vt (most:Nat):Ov most en0:=fun h=>by cases h
def Vu (R:Nat->Prop) (w:World) (a:En) (o1:Option Addr) (l1:Nat) (o2:Option Addr) (l2:Nat) (ao:Option Addr) (an ac:Nat):Prop:=aB R w o1 l1 a.2.2.2.1.tp/\bC R w o2 l2 a.2.2.2.2.1/\EvS R w ao an a.2.2.2.2.2/\an<=ac
theorem aav (R:Nat->Prop) (w:World):Vu R w en0 none 0 none 0 none 0 0:=⟨aB.nil _ _ _,bC.nil _ _ _,EvS.nil _ _ _,Nat.le_refl _⟩
theorem Vu.stay {R:Nat->Prop} {w w':World} {a:En} {o1:Option Addr} {l1:Nat} {o2:Option Addr} {l2:Nat} {ao:Option Addr} {an ac:Nat} (h:Vu R w a o1 l1 o2 l2 ao an ac) (hq:ah w w'):Vu R w' a o1 l1 o2 l2 ao an ac:=⟨h.1.stay hq,h.2.1.stay hq,h.2.2.1.stay hq,h.2.2.2⟩
abbrev Ya (a:En) (o1:Option Addr) (l1 c1:Nat) (o2:Option Addr) (l2 c2:Nat) (ao:Option Addr) (an ac:Nat):Array Value:=eX a.1 a.2.1 a.2.2.1 a.2.2.2.1 o1 l1 c1 o2 l2 c2 ao an ac
end Em
end
section
open Go.RowKit
namespace Em
def TmC (R:Nat->Prop) (W:World) (B:Nat) (d:Dk) (most:Nat) (h:Nd) (o1:Option Addr) (l1 c1:Nat) (o2:Option Addr) (l2 c2:Nat) (wx:World):Prop :=
 ∃ lo ln lc oo on oc inn,wx.heap[B]?=some (.cells (r5 lo ln lc d.next most oo on oc inn) 61 (0,0))/\wx.heap[B+1]?=some (.cells (cells9 h o1 l1 c1 o2 l2 c2) 30 (0,0))/\wx.heap[B+1+1]?=some (.cells #[.slice none 0 0,.int .i64 0,.int .i64 0,.slice none 0 0,.int .i64 0] 61 (0,0)) /\
  fH (RB R B) wx most d lo ln lc oo on oc/\ah W wx
theorem dH {P : Program} {ops : Array Oper} {Q : Exit -> Act -> World -> Prop} {S : World -> Prop} (L : Nat) {id : Nat} {a : Act} {w : World} (hS : ∀ W, ah w W -> S W) (hm : P.follows .mixedOrders = true)
    (h:S w.drew->HT.jQ P .any ops Q S L ops.size (Array.replicate ops.size false) a w.drew):(Code.region id ops true).wp P Q a w:=HT.begin_ L hm (hS _ (ah.drew w)) h
theorem Ox {R:Nat->Prop} {wx w':World} {B most:Nat} {d:Dk} {lo:Option Addr} {ln lc:Nat} {oo:Option Addr} {on oc:Nat} (hk:fH (RB R B) wx most d lo ln lc oo on oc) (hf:Fr (fun k=>k=B) wx w'):fH (RB R B) w' most d lo ln lc oo on oc :=
 hk.fr hf (fun k _ h=>⟨h,fun e=>by have e':k=B:=e;rcases h with h | h<;>omega⟩)
theorem jX {R : Nat -> Prop} {W w9 : World} {B most : Nat} {d : Dk} {h : Nd} {o1 : Option Addr} {l1 c1 : Nat} {o2 : Option Addr} {l2 c2 : Nat} {lo : Option Addr} {ln lc : Nat} {oo : Option Addr} {on oc : Nat} {a' b' c' d' e' : Value} (inn : Int) (hb0 : w9.heap[B]? = some (.cells #[a', b', c', d', e'] 61 (0, 0))) (hb1 : w9.heap[B + 1]? = some (.cells (cells9 h o1 l1 c1 o2 l2 c2) 30 (0, 0))) (hb2 : w9.heap[B + 1 + 1]? = some (.cells #[.slice none 0 0, .int .i64 0, .int .i64 0, .slice none 0 0, .int .i64 0] 61 (0, 0)))
    (hk:fH (RB R B) w9 most d lo ln lc oo on oc) (hq:ah W w9) (hB:W.heap.size=B):TmC R W B d most h o1 l1 c1 o2 l2 c2 (iD w9 B (.slice lo ln lc) (.int .i64 d.next) (.int .i64 most) (.slice oo on oc) (.int .i64 inn)):=by
 have hf:=eU w9 B (.slice lo ln lc) (.int .i64 d.next) (.int .i64 most) (.slice oo on oc) (.int .i64 inn);exact ⟨lo,ln,lc,oo,on,oc,inn,bV hb0,aC hf (by intro h;have h':B+1=B:=h;omega) hb1,aC hf (by intro h;have h':B+1+1=B:=h;omega) hb2,Ox hk hf,Fr.trans' hq hf (fun i hi e=>by have e':i=B:=e;omega)⟩
theorem Oy {R : Nat -> Prop} {W wr w2 : World} {B most : Nat} {d1 d2 : Dk} {h : Nd} {o1 : Option Addr} {l1 c1 : Nat} {o2 : Option Addr} {l2 c2 : Nat} {lo : Option Addr} {ln lc : Nat} {oo : Option Addr} {on oc : Nat} {inn : Int} (hd : d2 = { d1 with next := d1.next + 1 }) (hw : w2 = wr.setCell ⟨B, 1, none⟩ (.int .i64 d2.next)) (hb0 : wr.heap[B]? = some (.cells (r5 lo ln lc d1.next most oo on oc inn) 61 (0, 0))) (hb1 : wr.heap[B + 1]? = some (.cells (cells9 h o1 l1 c1 o2 l2 c2) 30 (0, 0))) (hb2 : wr.heap[B + 1 + 1]? = some (.cells #[.slice none 0 0, .int .i64 0, .int .i64 0, .slice none 0 0, .int .i64 0] 61 (0, 0)))
    (hk:fH (RB R B) wr most d1 lo ln lc oo on oc) (hq:ah W wr) (hB:W.heap.size=B):w2.heap[B]?=some (.cells (r5 lo ln lc d2.next most oo on oc inn) 61 (0,0))/\w2.heap[B+1]?=some (.cells (cells9 h o1 l1 c1 o2 l2 c2) 30 (0,0))/\w2.heap[B+1+1]?=some (.cells #[.slice none 0 0,.int .i64 0,.int .i64 0,.slice none 0 0,.int .i64 0] 61 (0,0))/\fH (RB R B) w2 most d2 lo ln lc oo on oc/\ah W w2:=by
 subst hw;have hf:=Fr.setCell (fun i=>i=B) wr ⟨B,1,none⟩ (.int .i64 d2.next) rfl;have k:=Ox hk hf;refine ⟨aF (i:=1) hb0,aC hf (by intro h;have h':B+1=B:=h;omega) hb1,aC hf (by intro h;have h':B+1+1=B:=h;omega) hb2,?_,Fr.trans' hq hf (fun i hi e=>by have e':i=B:=e;omega)⟩;subst hd;exact ⟨k.len,k.cap,k.eqs,k.few,k.own,Nat.le_succ_of_le k.onl,k.onc⟩
theorem Kv {R : Nat -> Prop} {W w9 w2 : World} {B most : Nat} {d : Dk} {h : Nd} {o1 : Option Addr} {l1 c1 : Nat} {o2 : Option Addr} {l2 c2 : Nat} {lo : Option Addr} {ln lc : Nat} {oo : Option Addr} {on oc : Nat} {a' b' c' d' e' : Value} {inn : Int} (hw : w2 = iD w9 B (.slice lo ln lc) (.int .i64 d.next) (.int .i64 most) (.slice oo on oc) (.int .i64 inn)) (hb0 : w9.heap[B]? = some (.cells #[a', b', c', d', e'] 61 (0, 0))) (hb1 : w9.heap[B + 1]? = some (.cells (cells9 h o1 l1 c1 o2 l2 c2) 30 (0, 0))) (hb2 : w9.heap[B + 1 + 1]? = some (.cells #[.slice none 0 0, .int .i64 0, .int .i64 0, .slice none 0 0, .int .i64 0] 61 (0, 0)))
    (hk:fH (RB R B) w9 most d lo ln lc oo on oc) (hq:ah W w9) (hB:W.heap.size=B):w2.heap[B]?=some (.cells (r5 lo ln lc d.next most oo on oc inn) 61 (0,0))/\w2.heap[B+1]?=some (.cells (cells9 h o1 l1 c1 o2 l2 c2) 30 (0,0))/\w2.heap[B+1+1]?=some (.cells #[.slice none 0 0,.int .i64 0,.int .i64 0,.slice none 0 0,.int .i64 0] 61 (0,0))/\fH (RB R B) w2 most d lo ln lc oo on oc/\ah W w2:=by
 subst hw;have hf:=eU w9 B (.slice lo ln lc) (.int .i64 d.next) (.int .i64 most) (.slice oo on oc) (.int .i64 inn);exact ⟨bV hb0,aC hf (by intro h;have h':B+1=B:=h;omega) hb1,aC hf (by intro h;have h':B+1+1=B:=h;omega) hb2,Ox hk hf,Fr.trans' hq hf (fun i hi e=>by have e':i=B:=e;omega)⟩
theorem gG {w w':World} {b off:Nat} {h:Nd} {o1:Option Addr} {l1 c1:Nat} {o2:Option Addr} {l2 c2:Nat} (hc:dL w b off h o1 l1 c1 o2 l2 c2) (hq:ah w w'):dL w' b off h o1 l1 c1 o2 l2 c2:=hc.fr hq (fun h=>h)
theorem jG {R:Nat->Prop} {W:World} {B:Nat} (hB:W.heap.size=B):∀ k,k < W.heap.size->R k->RB R B k/\¬ False:=fun _ hk hr=>⟨.inl ⟨hr,by omega⟩,fun h=>h⟩
theorem lX {R : Nat -> Prop} {W w4 : World} {B : Nat} {ev : Ev} {xs : List Value} {en : Nat} {nm : ByteArray} {v : Nat} {ag : Bool} {h : Nd} {ps : To} {ar : Ev} {o1 : Option Addr} {l1 c1 : Nat} {o2 : Option Addr} {l2 c2 : Nat} {ao : Option Addr} {an ac : Nat} {o4 : Option Addr} {c : Nat} (hx : oW R W xs ev) (hen : en = ev.length) (hq : ah W w4) (hB : W.heap.size = B) (hs : aB R W o1 l1 h.tp) (ht : bC R W o2 l2 ps) (he : EvS R W ao an ar) (hl : an <= ac)
    (ho:w4.ownsRow 0 79 13 (.slice o4 (en+1) c) (en+1) (xs++(eX nm v ag h o1 l1 c1 o2 l2 c2 ao an ac).toList)) (hz:en+1<=1000000) (hg:∀ k,(Value.slice o4 (en+1) c).ownBlock=some k->B+1+1 < k):EvS (RB R B) w4 o4 (en+1) (ev.snoc nm v ag h ps ar)/\en+1<=c :=
 X9 (oW.fr hq (jG hB) _ _ hx) (hs.fr hq (jG hB)) (ht.fr hq (jG hB)) (he.fr hq (jG hB)) hl ho hen hz (fun k hk=>.inr (hg k hk))
theorem Bl {most:Nat} {ps:To} {i:Nat} {u:Nd} {qu:To} (h:ps.get i=some (u,qu)) (e:aP):dat (dJ most ps) i e=dZ most u qu e:=by
 unfold dat;rw [List.getD_eq_getElem?_getD,oI most ps i u qu h];rfl
def aN (w:World) (B:Nat) (v0 v1 v2 v3 v4 v5 v6 v7 v8 v9 v10 v11 v12:Value):World:=(((((((((((((((((((((((((w).setCell ⟨B,0,none⟩ v0)).setCell ⟨B,1,none⟩ v1)).setCell ⟨B,2,none⟩ v2)).setCell ⟨B,3,none⟩ v3)).setCell ⟨B,4,none⟩ v4)).setCell ⟨B,5,none⟩ v5)).setCell ⟨B,6,none⟩ v6)).setCell ⟨B,7,none⟩ v7)).setCell ⟨B,8,none⟩ v8)).setCell ⟨B,9,none⟩ v9)).setCell ⟨B,10,none⟩ v10)).setCell ⟨B,11,none⟩ v11)).setCell ⟨B,12,none⟩ v12
theorem bg (w:World) (B:Nat) (v0 v1 v2 v3 v4 v5 v6 v7 v8 v9 v10 v11 v12:Value):Fr (fun k=>k=B) w (aN w B v0 v1 v2 v3 v4 v5 v6 v7 v8 v9 v10 v11 v12):=((((((((((((Fr.setCell (fun k=>k=B) w ⟨B,0,none⟩ v0 rfl).trans (Fr.setCell (fun k=>k=B) _ ⟨B,1,none⟩ v1 rfl)).trans (Fr.setCell (fun k=>k=B) _ ⟨B,2,none⟩ v2 rfl)).trans (Fr.setCell (fun k=>k=B) _ ⟨B,3,none⟩ v3 rfl)).trans (Fr.setCell (fun k=>k=B) _ ⟨B,4,none⟩ v4 rfl)).trans (Fr.setCell (fun k=>k=B) _ ⟨B,5,none⟩ v5 rfl)).trans (Fr.setCell (fun k=>k=B) _ ⟨B,6,none⟩ v6 rfl)).trans (Fr.setCell (fun k=>k=B) _ ⟨B,7,none⟩ v7 rfl)).trans (Fr.setCell (fun k=>k=B) _ ⟨B,8,none⟩ v8 rfl)).trans (Fr.setCell (fun k=>k=B) _ ⟨B,9,none⟩ v9 rfl)).trans (Fr.setCell (fun k=>k=B) _ ⟨B,10,none⟩ v10 rfl)).trans (Fr.setCell (fun k=>k=B) _ ⟨B,11,none⟩ v11 rfl)).trans (Fr.setCell (fun k=>k=B) _ ⟨B,12,none⟩ v12 rfl)
theorem aK {w:World} {B:Nat} {v0 v1 v2 v3 v4 v5 v6 v7 v8 v9 v10 v11 v12 v0' v1' v2' v3' v4' v5' v6' Y2 Yb WR DU AZ zI:Value} {t:TypeId} (h:w.heap[B]?=some (.cells #[v0',v1',v2',v3',v4',v5',v6',Y2,Yb,WR,DU,AZ,zI] t (0,0))):(aN w B v0 v1 v2 v3 v4 v5 v6 v7 v8 v9 v10 v11 v12).heap[B]?=some (.cells #[v0,v1,v2,v3,v4,v5,v6,v7,v8,v9,v10,v11,v12] t (0,0)):=by
 unfold aN;have h0:(w.setCell ⟨B,0,none⟩ v0).heap[B]?=some (.cells #[v0,v1',v2',v3',v4',v5',v6',Y2,Yb,WR,DU,AZ,zI] t (0,0)):=aF (i:=0) h;generalize w.setCell ⟨B,0,none⟩ v0=w0 at h0 ⊢;have h1:(w0.setCell ⟨B,1,none⟩ v1).heap[B]?=some (.cells #[v0,v1,v2',v3',v4',v5',v6',Y2,Yb,WR,DU,AZ,zI] t (0,0)):=aF (i:=1) h0;generalize w0.setCell ⟨B,1,none⟩ v1=w1 at h1 ⊢;have h2:(w1.setCell ⟨B,2,none⟩ v2).heap[B]?=some (.cells #[v0,v1,v2,v3',v4',v5',v6',Y2,Yb,WR,DU,AZ,zI] t (0,0)):=aF (i:=2) h1;generalize w1.setCell ⟨B,2,none⟩ v2=w2 at h2 ⊢;have h3:(w2.setCell ⟨B,3,none⟩ v3).heap[B]?=some (.cells #[v0,v1,v2,v3,v4',v5',v6',Y2,Yb,WR,DU,AZ,zI] t (0,0)):=aF (i:=3) h2;generalize w2.setCell ⟨B,3,none⟩ v3=w3 at h3 ⊢;have h4:(w3.setCell ⟨B,4,none⟩ v4).heap[B]?=some (.cells #[v0,v1,v2,v3,v4,v5',v6',Y2,Yb,WR,DU,AZ,zI] t (0,0)):=aF (i:=4) h3;generalize w3.setCell ⟨B,4,none⟩ v4=w4 at h4 ⊢;have h5:(w4.setCell ⟨B,5,none⟩ v5).heap[B]?=some (.cells #[v0,v1,v2,v3,v4,v5,v6',Y2,Yb,WR,DU,AZ,zI] t (0,0)):=aF (i:=5) h4;generalize w4.setCell ⟨B,5,none⟩ v5=w5 at h5 ⊢;have h6:(w5.setCell ⟨B,6,none⟩ v6).heap[B]?=some (.cells #[v0,v1,v2,v3,v4,v5,v6,Y2,Yb,WR,DU,AZ,zI] t (0,0)):=aF (i:=6) h5;generalize w5.setCell ⟨B,6,none⟩ v6=w6 at h6 ⊢;have h7:(w6.setCell ⟨B,7,none⟩ v7).heap[B]?=some (.cells #[v0,v1,v2,v3,v4,v5,v6,v7,Yb,WR,DU,AZ,zI] t (0,0)):=aF (i:=7) h6;generalize w6.setCell ⟨B,7,none⟩ v7=w7 at h7 ⊢;have h8:(w7.setCell ⟨B,8,none⟩ v8).heap[B]?=some (.cells #[v0,v1,v2,v3,v4,v5,v6,v7,v8,WR,DU,AZ,zI] t (0,0)):=aF (i:=8) h7
 generalize w7.setCell ⟨B,8,none⟩ v8=w8 at h8 ⊢;have h9:(w8.setCell ⟨B,9,none⟩ v9).heap[B]?=some (.cells #[v0,v1,v2,v3,v4,v5,v6,v7,v8,v9,DU,AZ,zI] t (0,0)):=aF (i:=9) h8;generalize w8.setCell ⟨B,9,none⟩ v9=w9 at h9 ⊢;have h10:(w9.setCell ⟨B,10,none⟩ v10).heap[B]?=some (.cells #[v0,v1,v2,v3,v4,v5,v6,v7,v8,v9,v10,AZ,zI] t (0,0)):=aF (i:=10) h9;generalize w9.setCell ⟨B,10,none⟩ v10=w10 at h10 ⊢;have h11:(w10.setCell ⟨B,11,none⟩ v11).heap[B]?=some (.cells #[v0,v1,v2,v3,v4,v5,v6,v7,v8,v9,v10,v11,zI] t (0,0)):=aF (i:=11) h10;generalize w10.setCell ⟨B,11,none⟩ v11=w11 at h11 ⊢;have h12:(w11.setCell ⟨B,12,none⟩ v12).heap[B]?=some (.cells #[v0,v1,v2,v3,v4,v5,v6,v7,v8,v9,v10,v11,v12] t (0,0)):=aF (i:=12) h11;exact h12
theorem thirteen {W:World} {b:Nat} {v0 v1 v2 v3 v4 v5 v6 v7 v8 v9 v10 v11 v12:Value} {t:TypeId} (h:W.heap[b]?=some (.cells #[v0,v1,v2,v3,v4,v5,v6,v7,v8,v9,v10,v11,v12] t (0,0))):(W.cell? ⟨b,0,none⟩=some v0/\W.cell? ⟨b,1,none⟩=some v1/\W.cell? ⟨b,2,none⟩=some v2/\W.cell? ⟨b,3,none⟩=some v3/\W.cell? ⟨b,4,none⟩=some v4/\W.cell? ⟨b,5,none⟩=some v5/\W.cell? ⟨b,6,none⟩=some v6/\W.cell? ⟨b,7,none⟩=some v7/\W.cell? ⟨b,8,none⟩=some v8/\W.cell? ⟨b,9,none⟩=some v9/\W.cell? ⟨b,10,none⟩=some v10/\W.cell? ⟨b,11,none⟩=some v11/\W.cell? ⟨b,12,none⟩=some v12)/\W.frozen? ⟨b,0,none⟩=false/\W.frozen? ⟨b,1,none⟩=false/\W.frozen? ⟨b,2,none⟩=false/\W.frozen? ⟨b,3,none⟩=false/\W.frozen? ⟨b,4,none⟩=false/\W.frozen? ⟨b,5,none⟩=false/\W.frozen? ⟨b,6,none⟩=false/\W.frozen? ⟨b,7,none⟩=false/\W.frozen? ⟨b,8,none⟩=false/\W.frozen? ⟨b,9,none⟩=false/\W.frozen? ⟨b,10,none⟩=false/\W.frozen? ⟨b,11,none⟩=false/\W.frozen? ⟨b,12,none⟩=false:=by
 refine ⟨⟨?_,?_,?_,?_,?_,?_,?_,?_,?_,?_,?_,?_,?_⟩,?_,?_,?_,?_,?_,?_,?_,?_,?_,?_,?_,?_,?_⟩
 all_goals first | (rw [cell_of_row _ _ _ _ _ (0,0) h];rfl) | simp [World.frozen?,h]
theorem Oz {R : Nat -> Prop} {W wr w2 : World} {B most : Nat} {d1 : Dk} {h : Nd} {o1 : Option Addr} {l1 c1 : Nat} {o2 : Option Addr} {l2 c2 : Nat} {lo : Option Addr} {ln lc : Nat} {oo : Option Addr} {on oc : Nat} {inn in2 : Int} (hw : w2 = wr.setCell ⟨B, 4, none⟩ (.int .i64 in2)) (hb0 : wr.heap[B]? = some (.cells (r5 lo ln lc d1.next most oo on oc inn) 61 (0, 0))) (hb1 : wr.heap[B + 1]? = some (.cells (cells9 h o1 l1 c1 o2 l2 c2) 30 (0, 0))) (hb2 : wr.heap[B + 1 + 1]? = some (.cells #[.slice none 0 0, .int .i64 0, .int .i64 0, .slice none 0 0, .int .i64 0] 61 (0, 0)))
    (hk:fH (RB R B) wr most d1 lo ln lc oo on oc) (hq:ah W wr) (hB:W.heap.size=B):w2.heap[B]?=some (.cells (r5 lo ln lc d1.next most oo on oc in2) 61 (0,0))/\w2.heap[B+1]?=some (.cells (cells9 h o1 l1 c1 o2 l2 c2) 30 (0,0))/\w2.heap[B+1+1]?=some (.cells #[.slice none 0 0,.int .i64 0,.int .i64 0,.slice none 0 0,.int .i64 0] 61 (0,0))/\fH (RB R B) w2 most d1 lo ln lc oo on oc/\ah W w2/\Fr (fun i=>i=B) wr w2:=by
 subst hw;have hf:=Fr.setCell (fun i=>i=B) wr ⟨B,4,none⟩ (.int .i64 in2) rfl;exact ⟨aF (i:=4) hb0,aC hf (by intro h;have h':B+1=B:=h;omega) hb1,aC hf (by intro h;have h':B+1+1=B:=h;omega) hb2,Ox hk hf,Fr.trans' hq hf (fun i hi e=>by have e':i=B:=e;omega),hf⟩
def abL (R:Nat->Prop) (W:World) (most:Nat) (ev:Ev) (s:ByteArray) (Bm i:Nat) (wx:World):Prop :=
 ∃ (a:En) (o1:Option Addr) (l1 c1:Nat) (o2:Option Addr) (l2 c2:Nat) (ao:Option Addr) (an ac:Nat),wx.heap[Bm]?=some (.cells (Ya a o1 l1 c1 o2 l2 c2 ao an ac) 79 (0,0))/\pJ (ev.drop i) s a=pJ ev s en0/\Ov most a/\Vu R W a o1 l1 o2 l2 ao an ac
theorem Good.drop {most:Nat}:∀ {e:Ev} (i:Nat),Good most e->Good most (e.drop i)
 | .nil,0,h=>h
 | .nil,_+1,h=>h
 | .cons _ _ _ _ _ _ _,0,h=>h
 | .cons _ _ _ _ _ _ _,i+1,h=>Good.drop i h.2
theorem OA (most:Nat) (e:Ev) (nm:ByteArray) (v:Nat) (h:Nd) (ps:To) (ar:Ev):lq most (e.snoc nm v false h ps ar)=(nm,jg v)::lq most e:=by rw [Dq];rfl
theorem QK (most:Nat) (e:Ev) (nm:ByteArray) (v:Nat) (h:Nd) (ps:To) (ar:Ev):lq most (e.snoc nm v true h ps ar)=(nm,jf most h (dJ most ps) (lq most ar))::lq most e:=by rw [Dq];rfl
theorem Aq (nm:ByteArray) (v:Nat) (ag:Bool) (h:Nd) (ps:To) (ar r:Ev) (s:ByteArray) (a:En):pJ (.cons nm v ag h ps ar r) s a=pJ r s (if nm=s then (nm,v,ag,h,ps,ar) else a):=rfl
theorem Ev.drop_zero (e:Ev):e.drop 0=e:=by cases e<;>rfl
theorem Ev.Kw:∀ (e:Ev),e.drop e.length=.nil
 | .nil=>rfl
 | .cons _ _ _ _ _ _ r=>Ev.Kw r
end Em
end
section
open Go.RowKit
namespace Em
theorem Vw {most:Nat} (_:most<=4000) (h:Nd) (ps:To) (ih:∀ i g qs,ps.get i=some (g,qs)->iU most g qs) (hk:h.k=6) (ar:Ev) (hz:ar.length+ps.size<=100000) (hgd:Good most ar) (hok:KU h ps.length) (kF:rH ps):KpA most h ps ar:=by
 intro R W d inn lo ln lc oo on oc o1 l1 c1 o2 l2 c2 eo en ec hrk hs1 hs2 hev vW hnb;have hl2:2<=l2:=by rw [hs2.1];exact hok.2.2.2.1 hk
 obtain ⟨b9,aJ,u,qu,kS,kT,d1u,kU,kV,kW,e9,_,gu,ru,cu,su,tu⟩:=hs2.nth (i:=0) (by omega);subst e9;simp only [Nat.zero_mul,Nat.add_zero] at cu;have IH:=hid (ih 0 u qu gu);have hzu:=To.dG ps 0 u qu gu;have hou:=fO ps 0 u qu kF gu;have hel:=hev.1;obtain ⟨W0,hW0⟩:∃ W0,W0=(((W.alloc (.cells (r5 lo ln lc d.next most oo on oc inn) 61)).alloc (.cells (cells9 h o1 l1 c1 (some ⟨b9,aJ,none⟩) l2 c2) 30)).alloc (.cells (#[.slice none 0 0,.int .i64 0,.int .i64 0,.slice none 0 0,.int .i64 0]) 61)):=⟨_,rfl⟩;have vG:ah W W0:=by rw [hW0];exact ((ah.alloc _ _).trans (ah.alloc _ _)).trans (ah.alloc _ _)
 have yC:(W.alloc (.cells (r5 lo ln lc d.next most oo on oc inn) 61)).heap.size=W.heap.size+1:=by simp
 have yD:((W.alloc (.cells (r5 lo ln lc d.next most oo on oc inn) 61)).alloc (.cells (cells9 h o1 l1 c1 (some ⟨b9,aJ,none⟩) l2 c2) 30)).heap.size=W.heap.size+1+1:=by simp
 have yE:W0.heap[W.heap.size]?=some (.cells (r5 lo ln lc d.next most oo on oc inn) 61 (0,0)):=by
  rw [hW0];have k:=heap_alloc_new W (.cells (r5 lo ln lc d.next most oo on oc inn) 61);exact au ((ah.alloc _ _).trans (ah.alloc _ _)) k
 have yF:W0.heap[W.heap.size+1]?=some (.cells (cells9 h o1 l1 c1 (some ⟨b9,aJ,none⟩) l2 c2) 30 (0,0)):=by
  rw [hW0];have k:=heap_alloc_new (W.alloc (.cells (r5 lo ln lc d.next most oo on oc inn) 61)) (.cells (cells9 h o1 l1 c1 (some ⟨b9,aJ,none⟩) l2 c2) 30);rw [yC] at k;exact au (ah.alloc _ _) k
 have um:W0.heap[W.heap.size+1+1]?=some (.cells (#[.slice none 0 0,.int .i64 0,.int .i64 0,.slice none 0 0,.int .i64 0]) 61 (0,0)):=by
  rw [hW0];have k:=heap_alloc_new ((W.alloc (.cells (r5 lo ln lc d.next most oo on oc inn) 61)).alloc (.cells (cells9 h o1 l1 c1 (some ⟨b9,aJ,none⟩) l2 c2) 30)) (.cells (#[.slice none 0 0,.int .i64 0,.int .i64 0,.slice none 0 0,.int .i64 0]) 61);rw [yD] at k;exact k
 clear yC yD;have hz0:W.heap.size+1+1 < W0.heap.size:=lt_of_block um;have Vx:fH (RB R W.heap.size) W0 most d lo ln lc oo on oc:=hrk.fr vG (jG rfl);have bD:=hid vG;have HB0:=hid yE;have Ry:=hid yF;have HB2:=hid um;have HK0:=hid Vx;have La:=hid hev;have QL:=hid hgd;have Bj:=hid cu;have AV:=hid su;have AX:=hid tu;have t6:(h.k == 6)=true:=by rw [hk];rfl
 have hi0:(0:Int) < l2:=by omega
 have hj0:0 < l2:=by omega
 have hlz:en+1+qu.size<=100000:=by omega
 clear hel;obtain ⟨res,hres⟩:∃ res,jf most h (dJ most ps) (lq most ar) d=res:=⟨_,rfl⟩;have hre:res=dZ most u qu (lq most ar) d:=by rw [<-hres];unfold jf;rw [if_pos hk,Bl gu]
 have HR1:Hid (res.1=d.next):=by show _=_;rw [hre,kX]
 have HRE:=hid hre;have yM:Hid (res.2.next<=1000000):=by show _<=_;rw [<-hres];exact hnb
 clear hre hnb;rw [hres];clear ih gu ru cu su tu hrk Vx hs1 hs2 hev hgd vG yE yF um hk hres hzu hok kF;unfold bP gK;go_enter Tryd.func33,Tryd.ntmps33;generalize dV:W.heap.size=B at *;go_upto_region 1 with fail
 rw [<-hW0];clear hW0;obtain ⟨⟨p0,p1,p2,p3,p4⟩,y0,y1,y2,y3,y4⟩:=five HB0.out;obtain ⟨a0,a1,a2,a3,a4,a5,a6,a7,a8⟩:=aA Ry.out;have nT:Hid (∀ W',ah W0 W'->Calls Tryd.prog 20 #[gK lo ln lc d.next most oo on oc inn,bP u kS kT d1u kU kV kW,.slice eo en ec] W' (sW (RB R B) W' most res.2)):=fun W' hq=>by
  have hq':=bD.out.trans hq;have k:=IH.out (RB R B) W' d inn lo ln lc oo on oc kS kT d1u kU kV kW eo en ec ar (HK0.out.stay hq) (AV.out.fr hq' (jG dV)) (AX.out.fr hq' (jG dV)) (La.out.fr hq' (jG dV)) vW (by omega) QL.out hou.1 hou.2 (by rw [<-HRE.out];exact yM.out);rw [<-HRE.out] at k;exact k
 unfold bP gK at nT;go_upto_region 3 with fail
 clear p0 p1 p2 p3 p4 y0 y1 y2 y3 y4 a0 a1 a2 a3 a4 a5 a6 a7 a8;have Y3:Hid (∀ W' W'',ah W0 W'->Fr (fun k=>k=B+1+1) W' W''->(fun (W':World)=>(A8 W' B (.slice lo ln lc) (.int .i64 d.next) (.int .i64 most) (.slice oo on oc) (.int .i64 inn))/\(qV W' (B+1) h o1 l1 c1 (some ⟨b9,aJ,none⟩) l2 c2)/\(ES W' b9 aJ u kS kT d1u kU kV kW)) W''):=fun W' W'' hq hf=>by
  obtain ⟨k,_⟩:=five (aC hf (by intro e;have e':B=B+1+1:=e;omega) (au hq HB0.out));exact ⟨k,aA (aC hf (by intro e;have e':B+1=B+1+1:=e;omega) (au hq Ry.out)),(gG Bj.out (bD.out.trans hq)).fr hf (by intro e;have e':b9=B+1+1:=e;have:=Bj.out.lt;omega)⟩
 have bK:Hid (∀ W',ah W0 W'->(fun (W':World)=>(A8 W' B (.slice lo ln lc) (.int .i64 d.next) (.int .i64 most) (.slice oo on oc) (.int .i64 inn))/\(qV W' (B+1) h o1 l1 c1 (some ⟨b9,aJ,none⟩) l2 c2)/\(ES W' b9 aJ u kS kT d1u kU kV kW)) W'):=fun W' hq=>Y3.out W' W' hq (Fr.refl _ _)
 refine dH 9 bK.out (by kernel_rfl) (fun hHeld=>?_)
 (try dsimp only at hHeld)
 have gq:=ah.drew W0;generalize W0.drew=wd at *;refine HT.tk 0 rfl ?_;go_frame;refine HT.tk 1 rfl ?_;go_frame;refine HT.tk 2 rfl ?_;go_frame;refine HT.tk 3 rfl ?_;go_frame;refine HT.tk 4 rfl ?_;go_frame;refine HT.tk 5 rfl ?_;go_frame;refine HT.tk 7 rfl ?_;go_frame;refine HT.branch (rs:=[6]) (by kernel_rfl) (by simp) ?_;refine HT.cn 6 rfl (fun K hK=>?_) ?_
 ·go_simp;go_at_call 20
  with_reducible refine Calls.mono (nT.out _ gq) ?_
  rintro e w3 ⟨lo3,iG,iH,iI,iJ,iK,gX,rfl,hk3,hq3⟩;have mg:=iF hk3 (Nat.lt_of_lt_of_le hz0 gq.size);have hqa:=gq.trans hq3;unfold gK;refine hK.out _ _ ?aaw (fun hHeld=>?_)
  case aaw=>exact bK.out _ hqa
  clear hK K
  (try go_frame)
  refine HT.branch (rs:=[8]) (by kernel_rfl) (by simp) ?_;refine HT.cn 8 rfl (fun K hK=>?_) ?_
  ·have hbs:=au hqa HB2.out;obtain ⟨⟨d0,d1,d2,d3,d4⟩,y0,y1,y2,y3,y4⟩:=five hbs;go_simp;have hf:=eU w3 (B+1+1) (.slice lo3 iG iH) (.int .i64 res.2.next) (.int .i64 most) (.slice iI iJ iK) (.int .i64 gX);have hbf:=bV (a:=.slice lo3 iG iH) (b:=.int .i64 res.2.next) (c:=.int .i64 most) (d:=.slice iI iJ iK) (e:=.int .i64 gX) hbs;change K _ (iD w3 (B+1+1) (.slice lo3 iG iH) (.int .i64 res.2.next) (.int .i64 most) (.slice iI iJ iK) (.int .i64 gX));clear d0 d1 d2 d3 d4 y0 y1 y2 y3 y4;have hend:=mV mg (bD.out.trans hqa) hf dV;have hsf:=Y3.out _ _ hqa hf;generalize iD w3 (B+1+1) (.slice lo3 iG iH) (.int .i64 res.2.next) (.int .i64 most) (.slice iI iJ iK) (.int .i64 gX)=wf at *;refine hK.out _ _ ?Vk (fun hHeld=>?_)
   case Vk=>exact hsf
   clear hK K
   (try go_frame)
   refine HT.last rfl (by kernel_rfl) (fun K hK=>?_);go_simp;refine hK.out _ _ ?_;clear hK K
   (try go_frame)
   refine HT.done (by kernel_rfl) ?_ _;obtain ⟨⟨f0,f1,f2,f3,f4⟩,_⟩:=five hbf;generalize Ba:bodyPost Tryd.prog Tryd.f33 (KpQ R W most res)=BP;go_wp2_with fail;rw [<-Ba];refine bodyPost_ret (by simp [results,Tryd.results33,go_sem,f0,f1,f2,f3,f4]<;>rfl) rfl ?_;exact ⟨lo3,iG,iH,iI,iJ,iK,gX,by rw [HR1.out],hend.1,hend.2⟩
  exact HT.bG.nil
 exact HT.bG.nil
end Em
end
end Go.Proofs.YtcninopmelmajaaDoor
