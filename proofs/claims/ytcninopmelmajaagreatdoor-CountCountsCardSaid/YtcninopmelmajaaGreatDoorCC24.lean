/-
  Texts laid together (RqSt, RqKp6, RqKp7, RqPt): laws and walks, with their conditions.
-/
import Derived.Test.YtcninopmelmajaaGreatDoorCC23
set_option maxHeartbeats 8000000
set_option maxRecDepth 1000000
namespace Go.Proofs.YtcninopmelmajaaGreatDoor
open Go.Lib (hid)
section
open Go.RowKit
namespace Em
def Zw (R:Nat->Prop) (W:World) (B:Nat) (d:Dk) (most:Nat) (h:Nd) (o1:Option Addr) (l1 c1:Nat) (o2:Option Addr) (l2 c2:Nat) (wx:World):Prop :=
 ∃ lo ln lc oo on oc inn,wx.heap[B]?=some (.cells (r5 lo ln lc d.next most oo on oc inn) 70 (0,0))/\wx.heap[B+1]?=some (.cells (cells9 h o1 l1 c1 o2 l2 c2) 29 (0,0))/\wx.heap[B+1+1]?=some (.cells #[.slice none 0 0,.int .i64 0,.int .i64 0,.slice none 0 0,.int .i64 0] 70 (0,0)) /\
  fJ (RB R B) wx most d lo ln lc oo on oc/\ah W wx
theorem bZ {P : Program} {ops : Array Oper} {Q : Exit -> Act -> World -> Prop} {S : World -> Prop} (L : Nat) {id : Nat} {a : Act} {w : World} (hS : ∀ W, ah w W -> S W) (hm : P.follows .mixedOrders = true)
    (h:S w.drew->HT.bD P .any ops Q S L ops.size (Array.replicate ops.size false) a w.drew):(Code.region id ops true).wp P Q a w:=HT.begin_ L hm (hS _ (ah.drew w)) h
theorem NG {R:Nat->Prop} {wx w':World} {B most:Nat} {d:Dk} {lo:Option Addr} {ln lc:Nat} {oo:Option Addr} {on oc:Nat} (hk:fJ (RB R B) wx most d lo ln lc oo on oc) (hf:Fr (fun k=>k=B) wx w'):fJ (RB R B) w' most d lo ln lc oo on oc :=
 hk.fr hf (fun k _ h=>⟨h,fun e=>by have e':k=B:=e;rcases h with h | h<;>omega⟩)
theorem jX {R : Nat -> Prop} {W w9 : World} {B most : Nat} {d : Dk} {h : Nd} {o1 : Option Addr} {l1 c1 : Nat} {o2 : Option Addr} {l2 c2 : Nat} {lo : Option Addr} {ln lc : Nat} {oo : Option Addr} {on oc : Nat} {a' b' c' d' e' : Value} (inn : Int) (hb0 : w9.heap[B]? = some (.cells #[a', b', c', d', e'] 70 (0, 0))) (hb1 : w9.heap[B + 1]? = some (.cells (cells9 h o1 l1 c1 o2 l2 c2) 29 (0, 0))) (hb2 : w9.heap[B + 1 + 1]? = some (.cells #[.slice none 0 0, .int .i64 0, .int .i64 0, .slice none 0 0, .int .i64 0] 70 (0, 0)))
    (hk:fJ (RB R B) w9 most d lo ln lc oo on oc) (hq:ah W w9) (hB:W.heap.size=B):Zw R W B d most h o1 l1 c1 o2 l2 c2 (iK w9 B (.slice lo ln lc) (.int .i64 d.next) (.int .i64 most) (.slice oo on oc) (.int .i64 inn)):=by
 have hf:=eP w9 B (.slice lo ln lc) (.int .i64 d.next) (.int .i64 most) (.slice oo on oc) (.int .i64 inn)
 exact ⟨lo,ln,lc,oo,on,oc,inn,bQ hb0,ay hf (by intro h;have h':B+1=B:=h;omega) hb1,ay hf (by intro h;have h':B+1+1=B:=h;omega) hb2,NG hk hf,Fr.trans' hq hf (fun i hi e=>by have e':i=B:=e;omega)⟩
theorem NH {R : Nat -> Prop} {W wr w2 : World} {B most : Nat} {d1 d2 : Dk} {h : Nd} {o1 : Option Addr} {l1 c1 : Nat} {o2 : Option Addr} {l2 c2 : Nat} {lo : Option Addr} {ln lc : Nat} {oo : Option Addr} {on oc : Nat} {inn : Int} (hd : d2 = { d1 with next := d1.next + 1 }) (hw : w2 = wr.setCell ⟨B, 1, none⟩ (.int .i64 d2.next)) (hb0 : wr.heap[B]? = some (.cells (r5 lo ln lc d1.next most oo on oc inn) 70 (0, 0))) (hb1 : wr.heap[B + 1]? = some (.cells (cells9 h o1 l1 c1 o2 l2 c2) 29 (0, 0))) (hb2 : wr.heap[B + 1 + 1]? = some (.cells #[.slice none 0 0, .int .i64 0, .int .i64 0, .slice none 0 0, .int .i64 0] 70 (0, 0)))
    (hk:fJ (RB R B) wr most d1 lo ln lc oo on oc) (hq:ah W wr) (hB:W.heap.size=B):w2.heap[B]?=some (.cells (r5 lo ln lc d2.next most oo on oc inn) 70 (0,0))/\w2.heap[B+1]?=some (.cells (cells9 h o1 l1 c1 o2 l2 c2) 29 (0,0))/\w2.heap[B+1+1]?=some (.cells #[.slice none 0 0,.int .i64 0,.int .i64 0,.slice none 0 0,.int .i64 0] 70 (0,0))/\fJ (RB R B) w2 most d2 lo ln lc oo on oc/\ah W w2:=by
 subst hw
 have hf:=Fr.setCell (fun i=>i=B) wr ⟨B,1,none⟩ (.int .i64 d2.next) rfl
 have k:=NG hk hf
 refine ⟨aB (i:=1) hb0,ay hf (by intro h;have h':B+1=B:=h;omega) hb1,ay hf (by intro h;have h':B+1+1=B:=h;omega) hb2,?_,Fr.trans' hq hf (fun i hi e=>by have e':i=B:=e;omega)⟩
 subst hd
 exact ⟨k.len,k.cap,k.eqs,k.few,k.own,Nat.le_succ_of_le k.onl,k.onc⟩
theorem Je {R : Nat -> Prop} {W w9 w2 : World} {B most : Nat} {d : Dk} {h : Nd} {o1 : Option Addr} {l1 c1 : Nat} {o2 : Option Addr} {l2 c2 : Nat} {lo : Option Addr} {ln lc : Nat} {oo : Option Addr} {on oc : Nat} {a' b' c' d' e' : Value} {inn : Int} (hw : w2 = iK w9 B (.slice lo ln lc) (.int .i64 d.next) (.int .i64 most) (.slice oo on oc) (.int .i64 inn)) (hb0 : w9.heap[B]? = some (.cells #[a', b', c', d', e'] 70 (0, 0))) (hb1 : w9.heap[B + 1]? = some (.cells (cells9 h o1 l1 c1 o2 l2 c2) 29 (0, 0))) (hb2 : w9.heap[B + 1 + 1]? = some (.cells #[.slice none 0 0, .int .i64 0, .int .i64 0, .slice none 0 0, .int .i64 0] 70 (0, 0)))
    (hk:fJ (RB R B) w9 most d lo ln lc oo on oc) (hq:ah W w9) (hB:W.heap.size=B):w2.heap[B]?=some (.cells (r5 lo ln lc d.next most oo on oc inn) 70 (0,0))/\w2.heap[B+1]?=some (.cells (cells9 h o1 l1 c1 o2 l2 c2) 29 (0,0))/\w2.heap[B+1+1]?=some (.cells #[.slice none 0 0,.int .i64 0,.int .i64 0,.slice none 0 0,.int .i64 0] 70 (0,0))/\fJ (RB R B) w2 most d lo ln lc oo on oc/\ah W w2:=by
 subst hw
 have hf:=eP w9 B (.slice lo ln lc) (.int .i64 d.next) (.int .i64 most) (.slice oo on oc) (.int .i64 inn)
 exact ⟨bQ hb0,ay hf (by intro h;have h':B+1=B:=h;omega) hb1,ay hf (by intro h;have h':B+1+1=B:=h;omega) hb2,NG hk hf,Fr.trans' hq hf (fun i hi e=>by have e':i=B:=e;omega)⟩
theorem gW {w w':World} {b off:Nat} {h:Nd} {o1:Option Addr} {l1 c1:Nat} {o2:Option Addr} {l2 c2:Nat} (hc:bF w b off h o1 l1 c1 o2 l2 c2) (hq:ah w w'):bF w' b off h o1 l1 c1 o2 l2 c2:=hc.fr hq (fun h=>h)
theorem jF {R:Nat->Prop} {W:World} {B:Nat} (hB:W.heap.size=B):∀ k,k < W.heap.size->R k->RB R B k/\¬ False:=fun _ hk hr=>⟨.inl ⟨hr,by omega⟩,fun h=>h⟩
theorem lM {R : Nat -> Prop} {W w4 : World} {B : Nat} {ev : Ev} {xs : List Value} {en : Nat} {nm : ByteArray} {v : Nat} {ag : Bool} {h : Nd} {ps : To} {ar : Ev} {o1 : Option Addr} {l1 c1 : Nat} {o2 : Option Addr} {l2 c2 : Nat} {ao : Option Addr} {an ac : Nat} {o4 : Option Addr} {c : Nat} (hx : oM R W xs ev) (hen : en = ev.length) (hq : ah W w4) (hB : W.heap.size = B) (hs : aC R W o1 l1 h.tp) (ht : aY R W o2 l2 ps) (he : EvS R W ao an ar) (hl : an <= ac)
    (ho:w4.ownsRow 0 108 13 (.slice o4 (en+1) c) (en+1) (xs++(eY nm v ag h o1 l1 c1 o2 l2 c2 ao an ac).toList)) (hz:en+1<=1000000) (hg:∀ k,(Value.slice o4 (en+1) c).ownBlock=some k->B+1+1 < k):EvS (RB R B) w4 o4 (en+1) (ev.snoc nm v ag h ps ar)/\en+1<=c :=
 WV (oM.fr hq (jF hB) _ _ hx) (hs.fr hq (jF hB)) (ht.fr hq (jF hB)) (he.fr hq (jF hB)) hl ho hen hz (fun k hk=>.inr (hg k hk))
theorem Ar {most:Nat} {ps:To} {i:Nat} {u:Nd} {qu:To} (h:ps.get i=some (u,qu)) (e:aS):dat (dD most ps) i e=dP most u qu e:=by
 unfold dat
 rw [List.getD_eq_getElem?_getD,nZ most ps i u qu h]
 rfl
def aO (w:World) (B:Nat) (v0 v1 v2 v3 v4 v5 v6 v7 v8 v9 v10 v11 v12:Value):World:=(((((((((((((((((((((((((w).setCell ⟨B,0,none⟩ v0)).setCell ⟨B,1,none⟩ v1)).setCell ⟨B,2,none⟩ v2)).setCell ⟨B,3,none⟩ v3)).setCell ⟨B,4,none⟩ v4)).setCell ⟨B,5,none⟩ v5)).setCell ⟨B,6,none⟩ v6)).setCell ⟨B,7,none⟩ v7)).setCell ⟨B,8,none⟩ v8)).setCell ⟨B,9,none⟩ v9)).setCell ⟨B,10,none⟩ v10)).setCell ⟨B,11,none⟩ v11)).setCell ⟨B,12,none⟩ v12
theorem bf (w:World) (B:Nat) (v0 v1 v2 v3 v4 v5 v6 v7 v8 v9 v10 v11 v12:Value):Fr (fun k=>k=B) w (aO w B v0 v1 v2 v3 v4 v5 v6 v7 v8 v9 v10 v11 v12):=((((((((((((Fr.setCell (fun k=>k=B) w ⟨B,0,none⟩ v0 rfl).trans (Fr.setCell (fun k=>k=B) _ ⟨B,1,none⟩ v1 rfl)).trans (Fr.setCell (fun k=>k=B) _ ⟨B,2,none⟩ v2 rfl)).trans (Fr.setCell (fun k=>k=B) _ ⟨B,3,none⟩ v3 rfl)).trans (Fr.setCell (fun k=>k=B) _ ⟨B,4,none⟩ v4 rfl)).trans (Fr.setCell (fun k=>k=B) _ ⟨B,5,none⟩ v5 rfl)).trans (Fr.setCell (fun k=>k=B) _ ⟨B,6,none⟩ v6 rfl)).trans (Fr.setCell (fun k=>k=B) _ ⟨B,7,none⟩ v7 rfl)).trans (Fr.setCell (fun k=>k=B) _ ⟨B,8,none⟩ v8 rfl)).trans (Fr.setCell (fun k=>k=B) _ ⟨B,9,none⟩ v9 rfl)).trans (Fr.setCell (fun k=>k=B) _ ⟨B,10,none⟩ v10 rfl)).trans (Fr.setCell (fun k=>k=B) _ ⟨B,11,none⟩ v11 rfl)).trans (Fr.setCell (fun k=>k=B) _ ⟨B,12,none⟩ v12 rfl)
theorem aN {w:World} {B:Nat} {v0 v1 v2 v3 v4 v5 v6 v7 v8 v9 v10 v11 v12 v0' v1' v2' v3' v4' v5' Zx X4 WX Vu CZ Af zk:Value} {t:TypeId} (h:w.heap[B]?=some (.cells #[v0',v1',v2',v3',v4',v5',Zx,X4,WX,Vu,CZ,Af,zk] t (0,0))):(aO w B v0 v1 v2 v3 v4 v5 v6 v7 v8 v9 v10 v11 v12).heap[B]?=some (.cells #[v0,v1,v2,v3,v4,v5,v6,v7,v8,v9,v10,v11,v12] t (0,0)):=by
 unfold aO
 have h0:(w.setCell ⟨B,0,none⟩ v0).heap[B]?=some (.cells #[v0,v1',v2',v3',v4',v5',Zx,X4,WX,Vu,CZ,Af,zk] t (0,0)):=aB (i:=0) h
 generalize w.setCell ⟨B,0,none⟩ v0=w0 at h0 ⊢
 have h1:(w0.setCell ⟨B,1,none⟩ v1).heap[B]?=some (.cells #[v0,v1,v2',v3',v4',v5',Zx,X4,WX,Vu,CZ,Af,zk] t (0,0)):=aB (i:=1) h0
 generalize w0.setCell ⟨B,1,none⟩ v1=w1 at h1 ⊢
 have h2:(w1.setCell ⟨B,2,none⟩ v2).heap[B]?=some (.cells #[v0,v1,v2,v3',v4',v5',Zx,X4,WX,Vu,CZ,Af,zk] t (0,0)):=aB (i:=2) h1
 generalize w1.setCell ⟨B,2,none⟩ v2=w2 at h2 ⊢
 have h3:(w2.setCell ⟨B,3,none⟩ v3).heap[B]?=some (.cells #[v0,v1,v2,v3,v4',v5',Zx,X4,WX,Vu,CZ,Af,zk] t (0,0)):=aB (i:=3) h2
 generalize w2.setCell ⟨B,3,none⟩ v3=w3 at h3 ⊢
 have h4:(w3.setCell ⟨B,4,none⟩ v4).heap[B]?=some (.cells #[v0,v1,v2,v3,v4,v5',Zx,X4,WX,Vu,CZ,Af,zk] t (0,0)):=aB (i:=4) h3
 generalize w3.setCell ⟨B,4,none⟩ v4=w4 at h4 ⊢
 have h5:(w4.setCell ⟨B,5,none⟩ v5).heap[B]?=some (.cells #[v0,v1,v2,v3,v4,v5,Zx,X4,WX,Vu,CZ,Af,zk] t (0,0)):=aB (i:=5) h4
 generalize w4.setCell ⟨B,5,none⟩ v5=w5 at h5 ⊢
 have h6:(w5.setCell ⟨B,6,none⟩ v6).heap[B]?=some (.cells #[v0,v1,v2,v3,v4,v5,v6,X4,WX,Vu,CZ,Af,zk] t (0,0)):=aB (i:=6) h5
 generalize w5.setCell ⟨B,6,none⟩ v6=w6 at h6 ⊢
 have h7:(w6.setCell ⟨B,7,none⟩ v7).heap[B]?=some (.cells #[v0,v1,v2,v3,v4,v5,v6,v7,WX,Vu,CZ,Af,zk] t (0,0)):=aB (i:=7) h6
 generalize w6.setCell ⟨B,7,none⟩ v7=w7 at h7 ⊢
 have h8:(w7.setCell ⟨B,8,none⟩ v8).heap[B]?=some (.cells #[v0,v1,v2,v3,v4,v5,v6,v7,v8,Vu,CZ,Af,zk] t (0,0)):=aB (i:=8) h7
 generalize w7.setCell ⟨B,8,none⟩ v8=w8 at h8 ⊢
 have h9:(w8.setCell ⟨B,9,none⟩ v9).heap[B]?=some (.cells #[v0,v1,v2,v3,v4,v5,v6,v7,v8,v9,CZ,Af,zk] t (0,0)):=aB (i:=9) h8
 generalize w8.setCell ⟨B,9,none⟩ v9=w9 at h9 ⊢
 have h10:(w9.setCell ⟨B,10,none⟩ v10).heap[B]?=some (.cells #[v0,v1,v2,v3,v4,v5,v6,v7,v8,v9,v10,Af,zk] t (0,0)):=aB (i:=10) h9
 generalize w9.setCell ⟨B,10,none⟩ v10=w10 at h10 ⊢
 have h11:(w10.setCell ⟨B,11,none⟩ v11).heap[B]?=some (.cells #[v0,v1,v2,v3,v4,v5,v6,v7,v8,v9,v10,v11,zk] t (0,0)):=aB (i:=11) h10
 generalize w10.setCell ⟨B,11,none⟩ v11=w11 at h11 ⊢
 have h12:(w11.setCell ⟨B,12,none⟩ v12).heap[B]?=some (.cells #[v0,v1,v2,v3,v4,v5,v6,v7,v8,v9,v10,v11,v12] t (0,0)):=aB (i:=12) h11
 exact h12
theorem thirteen {W:World} {b:Nat} {v0 v1 v2 v3 v4 v5 v6 v7 v8 v9 v10 v11 v12:Value} {t:TypeId} (h:W.heap[b]?=some (.cells #[v0,v1,v2,v3,v4,v5,v6,v7,v8,v9,v10,v11,v12] t (0,0))):(W.cell? ⟨b,0,none⟩=some v0/\W.cell? ⟨b,1,none⟩=some v1/\W.cell? ⟨b,2,none⟩=some v2/\W.cell? ⟨b,3,none⟩=some v3/\W.cell? ⟨b,4,none⟩=some v4/\W.cell? ⟨b,5,none⟩=some v5/\W.cell? ⟨b,6,none⟩=some v6/\W.cell? ⟨b,7,none⟩=some v7/\W.cell? ⟨b,8,none⟩=some v8/\W.cell? ⟨b,9,none⟩=some v9/\W.cell? ⟨b,10,none⟩=some v10/\W.cell? ⟨b,11,none⟩=some v11/\W.cell? ⟨b,12,none⟩=some v12)/\W.frozen? ⟨b,0,none⟩=false/\W.frozen? ⟨b,1,none⟩=false/\W.frozen? ⟨b,2,none⟩=false/\W.frozen? ⟨b,3,none⟩=false/\W.frozen? ⟨b,4,none⟩=false/\W.frozen? ⟨b,5,none⟩=false/\W.frozen? ⟨b,6,none⟩=false/\W.frozen? ⟨b,7,none⟩=false/\W.frozen? ⟨b,8,none⟩=false/\W.frozen? ⟨b,9,none⟩=false/\W.frozen? ⟨b,10,none⟩=false/\W.frozen? ⟨b,11,none⟩=false/\W.frozen? ⟨b,12,none⟩=false:=by
 refine ⟨⟨?_,?_,?_,?_,?_,?_,?_,?_,?_,?_,?_,?_,?_⟩,?_,?_,?_,?_,?_,?_,?_,?_,?_,?_,?_,?_,?_⟩
 all_goals first | (rw [cell_of_row _ _ _ _ _ (0,0) h];rfl) | simp [World.frozen?,h]
theorem NI {R : Nat -> Prop} {W wr w2 : World} {B most : Nat} {d1 : Dk} {h : Nd} {o1 : Option Addr} {l1 c1 : Nat} {o2 : Option Addr} {l2 c2 : Nat} {lo : Option Addr} {ln lc : Nat} {oo : Option Addr} {on oc : Nat} {inn in2 : Int} (hw : w2 = wr.setCell ⟨B, 4, none⟩ (.int .i64 in2)) (hb0 : wr.heap[B]? = some (.cells (r5 lo ln lc d1.next most oo on oc inn) 70 (0, 0))) (hb1 : wr.heap[B + 1]? = some (.cells (cells9 h o1 l1 c1 o2 l2 c2) 29 (0, 0))) (hb2 : wr.heap[B + 1 + 1]? = some (.cells #[.slice none 0 0, .int .i64 0, .int .i64 0, .slice none 0 0, .int .i64 0] 70 (0, 0)))
    (hk:fJ (RB R B) wr most d1 lo ln lc oo on oc) (hq:ah W wr) (hB:W.heap.size=B):w2.heap[B]?=some (.cells (r5 lo ln lc d1.next most oo on oc in2) 70 (0,0))/\w2.heap[B+1]?=some (.cells (cells9 h o1 l1 c1 o2 l2 c2) 29 (0,0))/\w2.heap[B+1+1]?=some (.cells #[.slice none 0 0,.int .i64 0,.int .i64 0,.slice none 0 0,.int .i64 0] 70 (0,0))/\fJ (RB R B) w2 most d1 lo ln lc oo on oc/\ah W w2/\Fr (fun i=>i=B) wr w2:=by
 subst hw
 have hf:=Fr.setCell (fun i=>i=B) wr ⟨B,4,none⟩ (.int .i64 in2) rfl
 exact ⟨aB (i:=4) hb0,ay hf (by intro h;have h':B+1=B:=h;omega) hb1,ay hf (by intro h;have h':B+1+1=B:=h;omega) hb2,NG hk hf,Fr.trans' hq hf (fun i hi e=>by have e':i=B:=e;omega),hf⟩
def aa1 (R:Nat->Prop) (W:World) (most:Nat) (ev:Ev) (s:ByteArray) (Bm i:Nat) (wx:World):Prop :=
 ∃ (a:En) (o1:Option Addr) (l1 c1:Nat) (o2:Option Addr) (l2 c2:Nat) (ao:Option Addr) (an ac:Nat),wx.heap[Bm]?=some (.cells (WW a o1 l1 c1 o2 l2 c2 ao an ac) 108 (0,0))/\rF (ev.drop i) s a=rF ev s en0/\X3 most a/\aa0 R W a o1 l1 o2 l2 ao an ac
theorem Good.drop {most:Nat}:∀ {e:Ev} (i:Nat),Good most e->Good most (e.drop i)
 | .nil,0,h=>h
 | .nil,_+1,h=>h
 | .cons _ _ _ _ _ _ _,0,h=>h
 | .cons _ _ _ _ _ _ _,i+1,h=>Good.drop i h.2
theorem NJ (most:Nat) (e:Ev) (nm:ByteArray) (v:Nat) (h:Nd) (ps:To) (ar:Ev):kY most (e.snoc nm v false h ps ar)=(nm,jG v)::kY most e:=by rw [CV];rfl
theorem PV (most:Nat) (e:Ev) (nm:ByteArray) (v:Nat) (h:Nd) (ps:To) (ar:Ev):kY most (e.snoc nm v true h ps ar)=(nm,jM most h (dD most ps) (kY most ar))::kY most e:=by rw [CV];rfl
theorem zN (nm:ByteArray) (v:Nat) (ag:Bool) (h:Nd) (ps:To) (ar r:Ev) (s:ByteArray) (a:En):rF (.cons nm v ag h ps ar r) s a=rF r s (if nm=s then (nm,v,ag,h,ps,ar) else a):=rfl
theorem Ev.drop_zero (e:Ev):e.drop 0=e:=by cases e<;>rfl
theorem Ev.Jf:∀ (e:Ev),e.drop e.length=.nil
 | .nil=>rfl
 | .cons _ _ _ _ _ _ r=>Ev.Jf r
end Em
end
section
open Go.RowKit
namespace Em
theorem Ub {most:Nat} (_:most<=4000) (h:Nd) (ps:To) (ih:∀ i g qs,ps.get i=some (g,qs)->jL most g qs) (hk:h.k=6) (ar:Ev) (hz:ar.length+ps.size<=100000) (hgd:Good most ar) (hok:Zb h ps.length) (mF:D6 ps):Zu most h ps ar:=by
 intro R W d inn lo ln lc oo on oc o1 l1 c1 o2 l2 c2 eo en ec hrk hs1 hs2 hev yj hnb
 have hl2:2<=l2:=by rw [hs2.1];exact hok.2.2.2.1 hk
 obtain ⟨b9,aH,u,qu,kS,kT,d1u,kU,kV,kW,e9,_,gu,ru,cu,su,tu⟩:=hs2.nth (i:=0) (by omega)
 subst e9
 simp only [Nat.zero_mul,Nat.add_zero] at cu
 have IH:=hid (ih 0 u qu gu)
 have hzu:=To.bV ps 0 u qu gu
 have hou:=lG ps 0 u qu mF gu
 have hel:=hev.1
 obtain ⟨W0,hW0⟩:∃ W0,W0=(((W.alloc (.cells (r5 lo ln lc d.next most oo on oc inn) 70)).alloc (.cells (cells9 h o1 l1 c1 (some ⟨b9,aH,none⟩) l2 c2) 29)).alloc (.cells (#[.slice none 0 0,.int .i64 0,.int .i64 0,.slice none 0 0,.int .i64 0]) 70)):=⟨_,rfl⟩
 have uS:ah W W0:=by rw [hW0];exact ((ah.alloc _ _).trans (ah.alloc _ _)).trans (ah.alloc _ _)
 have xH:(W.alloc (.cells (r5 lo ln lc d.next most oo on oc inn) 70)).heap.size=W.heap.size+1:=by simp
 have xI:((W.alloc (.cells (r5 lo ln lc d.next most oo on oc inn) 70)).alloc (.cells (cells9 h o1 l1 c1 (some ⟨b9,aH,none⟩) l2 c2) 29)).heap.size=W.heap.size+1+1:=by simp
 have xJ:W0.heap[W.heap.size]?=some (.cells (r5 lo ln lc d.next most oo on oc inn) 70 (0,0)):=by
  rw [hW0]
  have k:=heap_alloc_new W (.cells (r5 lo ln lc d.next most oo on oc inn) 70)
  exact ak ((ah.alloc _ _).trans (ah.alloc _ _)) k
 have xK:W0.heap[W.heap.size+1]?=some (.cells (cells9 h o1 l1 c1 (some ⟨b9,aH,none⟩) l2 c2) 29 (0,0)):=by
  rw [hW0]
  have k:=heap_alloc_new (W.alloc (.cells (r5 lo ln lc d.next most oo on oc inn) 70)) (.cells (cells9 h o1 l1 c1 (some ⟨b9,aH,none⟩) l2 c2) 29)
  rw [xH] at k
  exact ak (ah.alloc _ _) k
 have uf:W0.heap[W.heap.size+1+1]?=some (.cells (#[.slice none 0 0,.int .i64 0,.int .i64 0,.slice none 0 0,.int .i64 0]) 70 (0,0)):=by
  rw [hW0]
  have k:=heap_alloc_new ((W.alloc (.cells (r5 lo ln lc d.next most oo on oc inn) 70)).alloc (.cells (cells9 h o1 l1 c1 (some ⟨b9,aH,none⟩) l2 c2) 29)) (.cells (#[.slice none 0 0,.int .i64 0,.int .i64 0,.slice none 0 0,.int .i64 0]) 70)
  rw [xI] at k
  exact k
 clear xH xI
 have hz0:W.heap.size+1+1 < W0.heap.size:=lt_of_block uf
 have Uc:fJ (RB R W.heap.size) W0 most d lo ln lc oo on oc:=hrk.fr uS (jF rfl)
 have aK:=hid uS
 have HB0:=hid xJ
 have YU:=hid xK
 have HB2:=hid uf
 have HK0:=hid Uc
 have JE:=hid hev
 have JC:=hid hgd
 have vO:=hid cu
 have Ld:=hid su
 have H9:=hid tu
 have t6:(h.k == 6)=true:=by rw [hk];rfl
 have hi0:(0:Int) < l2:=by omega
 have hj0:0 < l2:=by omega
 have hlz:en+1+qu.size<=100000:=by omega
 clear hel
 obtain ⟨res,hres⟩:∃ res,jM most h (dD most ps) (kY most ar) d=res:=⟨_,rfl⟩
 have hre:res=dP most u qu (kY most ar) d:=by rw [<-hres];unfold jM;rw [if_pos hk,Ar gu]
 have HR1:Hid (res.1=d.next):=by show _=_;rw [hre,kQ]
 have Qw:=hid hre
 have MZ:Hid (res.2.next<=1000000):=by show _<=_;rw [<-hres];exact hnb
 clear hre hnb
 rw [hres]
 clear ih gu ru cu su tu hrk Uc hs1 hs2 hev hgd uS xJ xK uf hk hres hzu hok mF
 unfold bC gZ
 go_enter Tryz.func60,Tryz.ntmps60
 generalize eX:W.heap.size=B at *
 go_upto_region 1 with fail
 rw [<-hW0]
 clear hW0
 obtain ⟨⟨p0,p1,p2,p3,p4⟩,y0,y1,y2,y3,y4⟩:=five HB0.out
 obtain ⟨a0,a1,a2,a3,a4,a5,a6,a7,a8⟩:=aA YU.out
 have xO:Hid (∀ W',ah W0 W'->Calls Tryz.prog 37 #[gZ lo ln lc d.next most oo on oc inn,bC u kS kT d1u kU kV kW,.slice eo en ec] W' (sH (RB R B) W' most res.2)):=fun W' hq=>by
  have hq':=aK.out.trans hq
  have k:=IH.out (RB R B) W' d inn lo ln lc oo on oc kS kT d1u kU kV kW eo en ec ar (HK0.out.stay hq) (Ld.out.fr hq' (jF eX)) (H9.out.fr hq' (jF eX)) (JE.out.fr hq' (jF eX)) yj (by omega) JC.out hou.1 hou.2 (by rw [<-Qw.out];exact MZ.out)
  rw [<-Qw.out] at k
  exact k
 unfold bC gZ at xO
 go_upto_region 3 with fail
 clear p0 p1 p2 p3 p4 y0 y1 y2 y3 y4 a0 a1 a2 a3 a4 a5 a6 a7 a8
 have X5:Hid (∀ W' W'',ah W0 W'->Fr (fun k=>k=B+1+1) W' W''->(fun (W':World)=>(W'.cell? ⟨B,0,none⟩=some (.slice lo ln lc)/\W'.cell? ⟨B,1,none⟩=some (.int .i64 d.next)/\W'.cell? ⟨B,2,none⟩=some (.int .i64 most)/\W'.cell? ⟨B,3,none⟩=some (.slice oo on oc)/\W'.cell? ⟨B,4,none⟩=some (.int .i64 inn))/\(W'.cell? ⟨B+1,0,none⟩=some (.int .i64 h.k)/\W'.cell? ⟨B+1,1,none⟩=some (.string h.nm)/\W'.cell? ⟨B+1,2,none⟩=some (.int .i64 h.n)/\W'.cell? ⟨B+1,3,none⟩=some (.int .i64 h.tk)/\W'.cell? ⟨B+1,4,none⟩=some (.int .i64 h.tn)/\W'.cell? ⟨B+1,5,none⟩=some (.slice o1 l1 c1)/\W'.cell? ⟨B+1,6,none⟩=some (.slice (some ⟨b9,aH,none⟩) l2 c2)/\W'.cell? ⟨B+1,7,none⟩=some (.int .i64 h.fr)/\W'.cell? ⟨B+1,8,none⟩=some (.int .i64 h.en))/\(W'.cell? ⟨b9,aH,none⟩=some (.int .i64 u.k)/\W'.cell? ⟨b9,aH+1,none⟩=some (.string u.nm)/\W'.cell? ⟨b9,aH+2,none⟩=some (.int .i64 u.n)/\W'.cell? ⟨b9,aH+3,none⟩=some (.int .i64 u.tk)/\W'.cell? ⟨b9,aH+4,none⟩=some (.int .i64 u.tn)/\W'.cell? ⟨b9,aH+5,none⟩=some (.slice kS kT d1u)/\W'.cell? ⟨b9,aH+6,none⟩=some (.slice kU kV kW)/\W'.cell? ⟨b9,aH+7,none⟩=some (.int .i64 u.fr)/\W'.cell? ⟨b9,aH+8,none⟩=some (.int .i64 u.en))) W''):=fun W' W'' hq hf=>by
  obtain ⟨k,_⟩:=five (ay hf (by intro e;have e':B=B+1+1:=e;omega) (ak hq HB0.out))
  exact ⟨k,aA (ay hf (by intro e;have e':B+1=B+1+1:=e;omega) (ak hq YU.out)),(gW vO.out (aK.out.trans hq)).fr hf (by intro e;have e':b9=B+1+1:=e;have:=vO.out.lt;omega)⟩
 have dL:Hid (∀ W',ah W0 W'->(fun (W':World)=>(W'.cell? ⟨B,0,none⟩=some (.slice lo ln lc)/\W'.cell? ⟨B,1,none⟩=some (.int .i64 d.next)/\W'.cell? ⟨B,2,none⟩=some (.int .i64 most)/\W'.cell? ⟨B,3,none⟩=some (.slice oo on oc)/\W'.cell? ⟨B,4,none⟩=some (.int .i64 inn))/\(W'.cell? ⟨B+1,0,none⟩=some (.int .i64 h.k)/\W'.cell? ⟨B+1,1,none⟩=some (.string h.nm)/\W'.cell? ⟨B+1,2,none⟩=some (.int .i64 h.n)/\W'.cell? ⟨B+1,3,none⟩=some (.int .i64 h.tk)/\W'.cell? ⟨B+1,4,none⟩=some (.int .i64 h.tn)/\W'.cell? ⟨B+1,5,none⟩=some (.slice o1 l1 c1)/\W'.cell? ⟨B+1,6,none⟩=some (.slice (some ⟨b9,aH,none⟩) l2 c2)/\W'.cell? ⟨B+1,7,none⟩=some (.int .i64 h.fr)/\W'.cell? ⟨B+1,8,none⟩=some (.int .i64 h.en))/\(W'.cell? ⟨b9,aH,none⟩=some (.int .i64 u.k)/\W'.cell? ⟨b9,aH+1,none⟩=some (.string u.nm)/\W'.cell? ⟨b9,aH+2,none⟩=some (.int .i64 u.n)/\W'.cell? ⟨b9,aH+3,none⟩=some (.int .i64 u.tk)/\W'.cell? ⟨b9,aH+4,none⟩=some (.int .i64 u.tn)/\W'.cell? ⟨b9,aH+5,none⟩=some (.slice kS kT d1u)/\W'.cell? ⟨b9,aH+6,none⟩=some (.slice kU kV kW)/\W'.cell? ⟨b9,aH+7,none⟩=some (.int .i64 u.fr)/\W'.cell? ⟨b9,aH+8,none⟩=some (.int .i64 u.en))) W'):=fun W' hq=>X5.out W' W' hq (Fr.refl _ _)
 refine bZ 9 dL.out (by kernel_rfl) (fun hHeld=>?_)
 (try dsimp only at hHeld)
 have gI:=ah.drew W0
 generalize W0.drew=wd at *
 refine HT.tk 0 rfl ?_
 go_frame
 refine HT.tk 1 rfl ?_
 go_frame
 refine HT.tk 2 rfl ?_
 go_frame
 refine HT.tk 3 rfl ?_
 go_frame
 refine HT.tk 4 rfl ?_
 go_frame
 refine HT.tk 5 rfl ?_
 go_frame
 refine HT.tk 7 rfl ?_
 go_frame
 refine HT.branch (rs:=[6]) (by kernel_rfl) (by simp) ?_
 refine HT.I4 (fun K hK=>?_) ?_
 ·go_simp
  go_at_call 37
  with_reducible refine Calls.mono (xO.out _ gI) ?_
  rintro e w3 ⟨lo3,iP,iQ,iR,iU,iV,iy,rfl,hk3,hq3⟩
  have lT:=iO hk3 (Nat.lt_of_lt_of_le hz0 gI.size)
  have hqa:=gI.trans hq3
  unfold gZ
  refine hK.out _ _ ?Zy (fun hHeld=>?_)
  case Zy=>exact dL.out _ hqa
  clear hK K
  (try go_frame)
  refine HT.branch (rs:=[8]) (by kernel_rfl) (by simp) ?_
  refine HT.EU (fun K hK=>?_) ?_
  ·have hbs:=ak hqa HB2.out
   obtain ⟨⟨d0,d1,d2,d3,d4⟩,y0,y1,y2,y3,y4⟩:=five hbs
   go_simp
   have hf:=eP w3 (B+1+1) (.slice lo3 iP iQ) (.int .i64 res.2.next) (.int .i64 most) (.slice iR iU iV) (.int .i64 iy)
   have hbf:=bQ (a:=.slice lo3 iP iQ) (b:=.int .i64 res.2.next) (c:=.int .i64 most) (d:=.slice iR iU iV) (e:=.int .i64 iy) hbs
   change K _ (iK w3 (B+1+1) (.slice lo3 iP iQ) (.int .i64 res.2.next) (.int .i64 most) (.slice iR iU iV) (.int .i64 iy))
   clear d0 d1 d2 d3 d4 y0 y1 y2 y3 y4
   have hend:=mD lT (aK.out.trans hqa) hf eX
   have hsf:=X5.out _ _ hqa hf
   generalize iK w3 (B+1+1) (.slice lo3 iP iQ) (.int .i64 res.2.next) (.int .i64 most) (.slice iR iU iV) (.int .i64 iy)=wf at *
   refine hK.out _ _ ?TQ (fun hHeld=>?_)
   case TQ=>exact hsf
   clear hK K
   (try go_frame)
   refine HT.aaR (by kernel_rfl) (fun K hK=>?_)
   go_simp
   refine hK.out _ _ ?_
   clear hK K
   (try go_frame)
   refine HT.done (by kernel_rfl) ?_ _
   obtain ⟨⟨f0,f1,f2,f3,f4⟩,_⟩:=five hbf
   generalize Ag:bodyPost Tryz.prog Tryz.f60 (KpQ R W most res)=BP
   go_wp2_with fail
   rw [<-Ag]
   refine bodyPost_ret (by simp [results,Tryz.results60,go_sem,f0,f1,f2,f3,f4]<;>rfl) rfl ?_
   exact ⟨lo3,iP,iQ,iR,iU,iV,iy,by rw [HR1.out],hend.1,hend.2⟩
  exact HT.aU.nil
 exact HT.aU.nil
end Em
end
section
open Go.RowKit
namespace Em
theorem Ud {most:Nat} (hm:most<=4000) (h:Nd) (ps:To) (ih:∀ i g qs,ps.get i=some (g,qs)->jL most g qs) (hk:h.k=7) (ar:Ev) (hz:ar.length+ps.size<=100000) (hgd:Good most ar) (hok:Zb h ps.length) (mF:D6 ps):Zu most h ps ar:=by
 intro R W d inn lo ln lc oo on oc o1 l1 c1 o2 l2 c2 eo en ec hrk hs1 hs2 hev yj hnb
 have hl2:2<=l2:=by rw [hs2.1];exact hok.2.2.2.2.1 hk
 obtain ⟨b9,aH,u,qu,kS,kT,d1u,kU,kV,kW,e9,_,gu,ru,cu,su,tu⟩:=hs2.nth (i:=0) (by omega)
 subst e9
 simp only [Nat.zero_mul,Nat.add_zero] at cu
 have IH:=hid (ih 0 u qu gu)
 have hzu:=To.bV ps 0 u qu gu
 have hou:=lG ps 0 u qu mF gu
 have JF:=hid hev.1
 have hel:=hev.1
 obtain ⟨W0,hW0⟩:∃ W0,W0=(((W.alloc (.cells (r5 lo ln lc d.next most oo on oc inn) 70)).alloc (.cells (cells9 h o1 l1 c1 (some ⟨b9,aH,none⟩) l2 c2) 29)).alloc (.cells (#[.slice none 0 0,.int .i64 0,.int .i64 0,.slice none 0 0,.int .i64 0]) 70)):=⟨_,rfl⟩
 have uS:ah W W0:=by rw [hW0];exact ((ah.alloc _ _).trans (ah.alloc _ _)).trans (ah.alloc _ _)
 have xH:(W.alloc (.cells (r5 lo ln lc d.next most oo on oc inn) 70)).heap.size=W.heap.size+1:=by simp
 have xI:((W.alloc (.cells (r5 lo ln lc d.next most oo on oc inn) 70)).alloc (.cells (cells9 h o1 l1 c1 (some ⟨b9,aH,none⟩) l2 c2) 29)).heap.size=W.heap.size+1+1:=by simp
 have xJ:W0.heap[W.heap.size]?=some (.cells (r5 lo ln lc d.next most oo on oc inn) 70 (0,0)):=by
  rw [hW0]
  have k:=heap_alloc_new W (.cells (r5 lo ln lc d.next most oo on oc inn) 70)
  exact ak ((ah.alloc _ _).trans (ah.alloc _ _)) k
 have xK:W0.heap[W.heap.size+1]?=some (.cells (cells9 h o1 l1 c1 (some ⟨b9,aH,none⟩) l2 c2) 29 (0,0)):=by
  rw [hW0]
  have k:=heap_alloc_new (W.alloc (.cells (r5 lo ln lc d.next most oo on oc inn) 70)) (.cells (cells9 h o1 l1 c1 (some ⟨b9,aH,none⟩) l2 c2) 29)
  rw [xH] at k
  exact ak (ah.alloc _ _) k
 have uf:W0.heap[W.heap.size+1+1]?=some (.cells (#[.slice none 0 0,.int .i64 0,.int .i64 0,.slice none 0 0,.int .i64 0]) 70 (0,0)):=by
  rw [hW0]
  have k:=heap_alloc_new ((W.alloc (.cells (r5 lo ln lc d.next most oo on oc inn) 70)).alloc (.cells (cells9 h o1 l1 c1 (some ⟨b9,aH,none⟩) l2 c2) 29)) (.cells (#[.slice none 0 0,.int .i64 0,.int .i64 0,.slice none 0 0,.int .i64 0]) 70)
  rw [xI] at k
  exact k
 clear xH xI
 have hz0:W.heap.size+1+1 < W0.heap.size:=lt_of_block uf
 have Uc:fJ (RB R W.heap.size) W0 most d lo ln lc oo on oc:=hrk.fr uS (jF rfl)
 have aK:=hid uS
 have HB0:=hid xJ
 have YU:=hid xK
 have HB2:=hid uf
 have HK0:=hid Uc
 have JE:=hid hev
 have JC:=hid hgd
 have vO:=hid cu
 have Ld:=hid su
 have H9:=hid tu
 have t6:(h.k == 6)=false:=by rw [hk];rfl
 have hi0:(0:Int) < l2:=by omega
 have hj0:0 < l2:=by omega
 have hlz:en+1+qu.size<=100000:=by omega
 clear hel
 obtain ⟨res,hres⟩:∃ res,jM most h (dD most ps) (kY most ar) d=res:=⟨_,rfl⟩
 obtain ⟨d2,hd2⟩:∃ d2:Dk,d2={ d with next:=d.next+1 }:=⟨_,rfl⟩
 have hdn:d2.next=d.next+1:=by rw [hd2]
 obtain ⟨rt,hrt⟩:∃ rt,dP most u qu (kY most (ar.snoc h.nm d.next false nd0 .nil .nil)) d2=rt:=⟨_,rfl⟩
 have hre:res=(d.next,(dK most (tv d.next) (tv d2.next) h.fr h.en rt.2).2):=by
  have e1:rt.1=d2.next:=by rw [<-hrt];exact kQ _ _ _ _ _
  rw [<-hres,<-e1,<-hrt,NJ,hd2]
  unfold jM
  rw [if_neg (by rw [hk];decide)]
  unfold fH kN jG
  dsimp only
  rw [Ar gu]
  all_goals rfl
 have HR1:Hid (res.1=d.next):=by show _=_;rw [hre]
 have HR2:Hid ((dK most (tv d.next) (tv d2.next) h.fr h.en rt.2).2=res.2):=by show _=_;rw [hre]
 have hnt:rt.2.next<=1000000:=by rw [hres,hre] at hnb;simpa only [jJ] using hnb
 have hnx:d2.next+1<=rt.2.next:=by rw [<-hrt];exact xM most u qu (mJ most _) d2
 have hn1:d.next+1<=1000000:=by omega
 have hnw:IntKind.i64.wrap ((d.next:Int)+1)=((d.next+1:Nat):Int):=by rw [IntWalk.i64_in _ (by omega)];omega
 have yh:=hid hrt
 have PW:=hid hnt
 have HD2:=hid hd2
 have HDN:=hid hdn
 clear hre hnb hrt hnt hnx hd2 hdn
 rw [hres]
 clear ih gu ru cu su tu hrk Uc hs1 hs2 hev hgd uS xJ xK uf hk hres hzu hok mF
 unfold bC gZ
 go_enter Tryz.func60,Tryz.ntmps60
 generalize eX:W.heap.size=B at *
 go_upto_region 1 with fail
 rw [<-hW0]
 clear hW0
 obtain ⟨⟨p0,p1,p2,p3,p4⟩,y0,y1,y2,y3,y4⟩:=five HB0.out
 obtain ⟨a0,a1,a2,a3,a4,a5,a6,a7,a8⟩:=aA YU.out
 go_upto_region 7 with fail
 rw [show ((d.next:Int)+1)=(d2.next:Int) from by have:=HDN.out;omega]
 clear p0 p1 p2 p3 p4 y0 y1 y2 y3 y4 a0 a1 a2 a3 a4 a5 a6 a7 a8
 obtain ⟨wp,hwp⟩:∃ wp,wp=W0.setCell ⟨B,1,none⟩ (.int .i64 d2.next):=⟨_,rfl⟩
 rw [<-hwp]
 obtain ⟨hb0,kF,hb2,hkp,PX⟩:=NH HD2.out hwp HB0.out YU.out HB2.out HK0.out aK.out eX
 have JG:=hid hb0
 have uT:=hid kF
 have zl:=hid hb2
 have Zz:=hid hkp
 have sD:=hid PX
 have hzp:B+1+1 < wp.heap.size:=lt_of_block hb2
 clear hwp hb0 kF hb2 hkp PX hnw hn1
 obtain ⟨xs,hrow,hxl,hxo,hxc⟩:=JE.out.row
 have KZ:=hid hxc
 have lS:=hid hrow
 clear hrow hxc
 have xO:Hid (∀ W' o c,ah wp W'->EvS (RB R B) W' o (en+1) (ar.snoc h.nm d.next false nd0 .nil .nil)->en+1<=c->Calls Tryz.prog 37 #[gZ lo ln lc d2.next most oo on oc inn,bC u kS kT d1u kU kV kW,.slice o (en+1) c] W' (sH (RB R B) W' most rt.2)):=fun W' o c hq he hc=>by
  have hq':=sD.out.trans hq
  have k:=IH.out (RB R B) W' d2 inn lo ln lc oo on oc kS kT d1u kU kV kW o (en+1) c _ (Zz.out.stay hq) (Ld.out.fr hq' (jF eX)) (H9.out.fr hq' (jF eX)) he hc hlz (Good.snoc (fun e=>by cases e) JC.out) hou.1 hou.2 (by rw [yh.out];exact PW.out)
  rw [yh.out] at k
  exact k
 unfold bC gZ at xO
 have X5:Hid (∀ W' W'',ah wp W'->Fr (fun k=>k=B+1+1) W' W''->(fun (W':World)=>(W'.cell? ⟨B,0,none⟩=some (.slice lo ln lc)/\W'.cell? ⟨B,1,none⟩=some (.int .i64 d2.next)/\W'.cell? ⟨B,2,none⟩=some (.int .i64 most)/\W'.cell? ⟨B,3,none⟩=some (.slice oo on oc)/\W'.cell? ⟨B,4,none⟩=some (.int .i64 inn))/\(W'.cell? ⟨B+1,0,none⟩=some (.int .i64 h.k)/\W'.cell? ⟨B+1,1,none⟩=some (.string h.nm)/\W'.cell? ⟨B+1,2,none⟩=some (.int .i64 h.n)/\W'.cell? ⟨B+1,3,none⟩=some (.int .i64 h.tk)/\W'.cell? ⟨B+1,4,none⟩=some (.int .i64 h.tn)/\W'.cell? ⟨B+1,5,none⟩=some (.slice o1 l1 c1)/\W'.cell? ⟨B+1,6,none⟩=some (.slice (some ⟨b9,aH,none⟩) l2 c2)/\W'.cell? ⟨B+1,7,none⟩=some (.int .i64 h.fr)/\W'.cell? ⟨B+1,8,none⟩=some (.int .i64 h.en))/\(W'.cell? ⟨b9,aH,none⟩=some (.int .i64 u.k)/\W'.cell? ⟨b9,aH+1,none⟩=some (.string u.nm)/\W'.cell? ⟨b9,aH+2,none⟩=some (.int .i64 u.n)/\W'.cell? ⟨b9,aH+3,none⟩=some (.int .i64 u.tk)/\W'.cell? ⟨b9,aH+4,none⟩=some (.int .i64 u.tn)/\W'.cell? ⟨b9,aH+5,none⟩=some (.slice kS kT d1u)/\W'.cell? ⟨b9,aH+6,none⟩=some (.slice kU kV kW)/\W'.cell? ⟨b9,aH+7,none⟩=some (.int .i64 u.fr)/\W'.cell? ⟨b9,aH+8,none⟩=some (.int .i64 u.en))) W''):=fun W' W'' hq hf=>by
  obtain ⟨k,_⟩:=five (ay hf (by intro e;have e':B=B+1+1:=e;omega) (ak hq JG.out))
  exact ⟨k,aA (ay hf (by intro e;have e':B+1=B+1+1:=e;omega) (ak hq uT.out)),(gW vO.out (sD.out.trans hq)).fr hf (by intro e;have e':b9=B+1+1:=e;have:=vO.out.lt;omega)⟩
 have dL:Hid (∀ W',ah wp W'->(fun (W':World)=>(W'.cell? ⟨B,0,none⟩=some (.slice lo ln lc)/\W'.cell? ⟨B,1,none⟩=some (.int .i64 d2.next)/\W'.cell? ⟨B,2,none⟩=some (.int .i64 most)/\W'.cell? ⟨B,3,none⟩=some (.slice oo on oc)/\W'.cell? ⟨B,4,none⟩=some (.int .i64 inn))/\(W'.cell? ⟨B+1,0,none⟩=some (.int .i64 h.k)/\W'.cell? ⟨B+1,1,none⟩=some (.string h.nm)/\W'.cell? ⟨B+1,2,none⟩=some (.int .i64 h.n)/\W'.cell? ⟨B+1,3,none⟩=some (.int .i64 h.tk)/\W'.cell? ⟨B+1,4,none⟩=some (.int .i64 h.tn)/\W'.cell? ⟨B+1,5,none⟩=some (.slice o1 l1 c1)/\W'.cell? ⟨B+1,6,none⟩=some (.slice (some ⟨b9,aH,none⟩) l2 c2)/\W'.cell? ⟨B+1,7,none⟩=some (.int .i64 h.fr)/\W'.cell? ⟨B+1,8,none⟩=some (.int .i64 h.en))/\(W'.cell? ⟨b9,aH,none⟩=some (.int .i64 u.k)/\W'.cell? ⟨b9,aH+1,none⟩=some (.string u.nm)/\W'.cell? ⟨b9,aH+2,none⟩=some (.int .i64 u.n)/\W'.cell? ⟨b9,aH+3,none⟩=some (.int .i64 u.tk)/\W'.cell? ⟨b9,aH+4,none⟩=some (.int .i64 u.tn)/\W'.cell? ⟨b9,aH+5,none⟩=some (.slice kS kT d1u)/\W'.cell? ⟨b9,aH+6,none⟩=some (.slice kU kV kW)/\W'.cell? ⟨b9,aH+7,none⟩=some (.int .i64 u.fr)/\W'.cell? ⟨b9,aH+8,none⟩=some (.int .i64 u.en))) W'):=fun W' hq=>X5.out W' W' hq (Fr.refl _ _)
 go_cut [] from 32 to 46 (fun wx=>Zw R W B rt.2 most h o1 l1 c1 (some ⟨b9,aH,none⟩) l2 c2 wx)
 case first =>
  refine bZ 15 dL.out (by kernel_rfl) (fun hHeld=>?_)
  (try dsimp only at hHeld)
  have gI:=ah.drew wp
  generalize wp.drew=wd at gI hHeld ⊢
  refine HT.tk 0 rfl ?_
  go_frame
  refine HT.tk 1 rfl ?_
  go_frame
  refine HT.tk 2 rfl ?_
  go_frame
  refine HT.tk 3 rfl ?_
  go_frame
  refine HT.tk 4 rfl ?_
  go_frame
  refine HT.tk 6 rfl ?_
  go_frame
  refine HT.tk 8 rfl ?_
  go_frame
  refine HT.tk 9 rfl ?_
  go_frame
  refine HT.tk 10 rfl ?_
  go_frame
  refine HT.tk 11 rfl ?_
  go_frame
  refine HT.branch (rs:=[5,12]) (by kernel_rfl) (by simp) ?_
  refine HT.CO (fun K hK=>?_) ?_
  ·go_simp
   obtain ⟨qy,qZ⟩:∃ wa,wa=wd.alloc (.cells #[] 108):=⟨_,rfl⟩
   have hqa:ah wd qy:=by rw [qZ];exact ah.alloc _ _
   have hown:=gB (size:=13) (show qy.heap[wd.heap.size]?=some (.cells #[] 108 (0,0)) by rw [qZ];exact heap_alloc_new wd _)
   have hgl:wp.heap.size<=wd.heap.size:=(gI).size
   have mg:=(gI).trans hqa
   rw [<-qZ]
   clear qZ
   generalize wd.heap.size=ga at hown hgl ⊢
   refine hK.out _ _ ?ZA (fun hHeld=>?_)
   case ZA=>exact dL.out _ mg
   clear hK K
   (try go_frame)
   refine HT.branch (rs:=[7,12]) (by kernel_rfl) (by simp) ?_
   refine HT.jV (fun K hK=>?_) ?_
   ·refine aJ qy rfl (.tmp 37) (.tmp 38) 105 rfl 108 _ 13 168 jk (.slice (some ⟨ga,0,none⟩) 0 0) 0 [] rfl hown eo en ec xs rfl hxl ?aa2 hxo (by unfold maxLen;omega) (by omega) ?_
    case aa2=>(intro j u hj;obtain ⟨b,off,e,hc⟩:=KZ.out j u hj;subst e;exact ⟨_,rfl,by rw [Addr.add_lit];exact (sD.out.trans (mg)).at hc⟩)
    intro o3 c3 jE ho3 hf3 fE hnil3
    simp only [Nat.zero_add,List.nil_append] at ho3 fE hnil3 ⊢
    have oN:ah wp jE:=Fr.trans' (mg) hf3 (fun i hi e=>by simp [Value.ownBlock] at e;omega)
    have iL:∀ k,(Value.slice o3 en c3).ownBlock=some k->wp.heap.size<=k:=fun k hk=>by
     rcases fE with e | e
     ·rw [e] at hk;simp [Value.ownBlock] at hk;omega
     ·rw [e] at hk;cases hk;exact ((mg)).size
    refine hK.out _ _ ?TR (fun hHeld=>?_)
    case TR=>exact dL.out _ oN
    clear hK K
    (try go_frame)
    refine HT.branch (rs:=[12]) (by kernel_rfl) (by simp) ?_
    refine HT.tY (fun K hK=>?_) ?_
    ·go_simp
     obtain ⟨lI,hwb⟩:∃ wb,wb=jE.alloc (.cells (eY h.nm d.next false nd0 none 0 0 none 0 0 none 0 0) 108):=⟨_,rfl⟩
     have pR:ah jE lI:=by rw [hwb];exact ah.alloc _ _
     have hb8:lI.heap[jE.heap.size]?=some (.cells (eY h.nm d.next false nd0 none 0 0 none 0 0 none 0 0) 108 (0,0)):=by rw [hwb];exact heap_alloc_new jE _
     have BL:wp.heap.size<=jE.heap.size:=(oN).size
     have kG:=(oN).trans pR
     have oO:=lt_of_block hb8
     change K _ (jE.alloc (.cells (eY h.nm d.next false nd0 none 0 0 none 0 0 none 0 0) 108))
     rw [<-hwb]
     clear hwb
     replace ho3:=aZ ho3 pR (fun _ _ h=>h)
     generalize jE.heap.size=g8 at hb8 BL oO ⊢
     refine hK.out _ _ ?TS (fun hHeld=>?_)
     case TS=>exact dL.out _ kG
     clear hK K
     (try go_frame)
     refine HT.branch (rs:=[13]) (by kernel_rfl) (by simp) ?_
     refine HT.qp (fun K hK=>?_) ?_
     ·have hc8:∀ j u,(eY h.nm d.next false nd0 none 0 0 none 0 0 none 0 0).toList[j]?=some u->∃ a,some (⟨g8,0,none⟩:Addr)=some a/\lI.cell? (a.add j)=some u:=fun j u hj=>⟨_,rfl,by rw [Addr.add_lit,Nat.zero_add,cell_of_row _ _ _ _ _ (0,0) hb8];simpa using hj⟩
      refine aJ lI rfl (.tmp 39) (.tmp 44) 105 rfl 108 _ 13 168 jk (.slice o3 en c3) en xs rfl ho3 (some ⟨g8,0,none⟩) 1 1 (eY h.nm d.next false nd0 none 0 0 none 0 0 none 0 0).toList rfl rfl hc8 (by simp [Value.oneCell']) (by unfold maxLen;omega) (by omega) ?_
      intro o4 c4 vZ kX hf4 oP ug
      have dQ:ah wp vZ:=Fr.trans' (kG) hf4 (fun i hi e=>by have:=iL i e;omega)
      have oQ:∀ k,(Value.slice o4 (en+1) c4).ownBlock=some k->B+1+1 < k:=fun k hk=>by
       rcases oP with e | e
       ·rw [e] at hk;have:=iL k hk;omega
       ·rw [e] at hk;cases hk;have:=((kG)).size;omega
      refine hK.out _ _ ?TT (fun hHeld=>?_)
      case TT=>exact dL.out _ dQ
      clear hK K
      (try go_frame)
      refine HT.branch (rs:=[14]) (by kernel_rfl) (by simp) ?_
      refine HT.qw (fun K hK=>?_) ?_
      ·obtain ⟨uj,um⟩:=lM (h:=nd0) (ps:=.nil) (ar:=.nil) (ag:=false) (o1:=none) (l1:=0) (c1:=0) (o2:=none) (l2:=0) (c2:=0) (ao:=none) (an:=0) (ac:=0) lS.out JF.out (sD.out.trans (dQ)) eX (aC.nil _ _ _) (aY.nil _ _ _) (EvS.nil _ _ _) (Nat.le_refl _) kX (by omega) oQ
       go_simp
       go_at_call 37
       with_reducible refine Calls.mono (xO.out _ _ _ (dQ) uj um) ?_
       rintro e w9 ⟨QD,QE,QF,QG,QH,QI,Ah,rfl,hk9,qI⟩
       have lT:=iO hk9 (Nat.lt_of_lt_of_le hzp (dQ).size)
       have dY:=(dQ).trans qI
       unfold gZ
       refine hK.out _ _ ?ZB (fun hHeld=>?_)
       case ZB=>exact dL.out _ dY
       clear hK K
       (try go_frame)
       refine HT.zi (by kernel_rfl) (fun K hK=>?_)
       have hbs:=ak dY JG.out
       obtain ⟨⟨p0,p1,p2,p3,p4⟩,y0,y1,y2,y3,y4⟩:=five hbs
       have hend:=jX Ah hbs (ak dY uT.out) (ak dY zl.out) lT (sD.out.trans dY) eX
       go_simp
       refine hK.out _ _ ?_
       clear hK K
       (try go_frame)
       refine HT.done (by kernel_rfl) ?_ _
       go_wp2_with fail
       go_meet
       exact hend
      exact HT.aU.nil
     exact HT.aU.nil
    exact HT.aU.nil
   refine HT.tY (fun K hK=>?_) ?_
   ·go_simp
    obtain ⟨wu,hwb⟩:∃ wb,wb=qy.alloc (.cells (eY h.nm d.next false nd0 none 0 0 none 0 0 none 0 0) 108):=⟨_,rfl⟩
    have pR:ah qy wu:=by rw [hwb];exact ah.alloc _ _
    have hb8:wu.heap[qy.heap.size]?=some (.cells (eY h.nm d.next false nd0 none 0 0 none 0 0 none 0 0) 108 (0,0)):=by rw [hwb];exact heap_alloc_new qy _
    have BL:wp.heap.size<=qy.heap.size:=(mg).size
    have lJ:=(mg).trans pR
    have oO:=lt_of_block hb8
    change K _ (qy.alloc (.cells (eY h.nm d.next false nd0 none 0 0 none 0 0 none 0 0) 108))
    rw [<-hwb]
    clear hwb
    have PS:=(hown.lt ga rfl).2
    replace hown:=aZ hown pR (fun _ _ h=>h)
    generalize qy.heap.size=g8 at hb8 BL oO PS ⊢
    refine hK.out _ _ ?TU (fun hHeld=>?_)
    case TU=>exact dL.out _ lJ
    clear hK K
    (try go_frame)
    refine HT.branch (rs:=[7]) (by kernel_rfl) (by simp) ?_
    refine HT.jV (fun K hK=>?_) ?_
    ·refine aJ wu rfl (.tmp 37) (.tmp 38) 105 rfl 108 _ 13 168 jk (.slice (some ⟨ga,0,none⟩) 0 0) 0 [] rfl hown eo en ec xs rfl hxl ?ZC hxo (by unfold maxLen;omega) (by omega) ?_
     case ZC=>(intro j u hj;obtain ⟨b,off,e,hc⟩:=KZ.out j u hj;subst e;exact ⟨_,rfl,by rw [Addr.add_lit];exact (sD.out.trans (lJ)).at hc⟩)
     intro o3 c3 oU ho3 hf3 fE hnil3
     simp only [Nat.zero_add,List.nil_append] at ho3 fE hnil3 ⊢
     have kH:ah wp oU:=Fr.trans' (lJ) hf3 (fun i hi e=>by simp [Value.ownBlock] at e;omega)
     have iL:∀ k,(Value.slice o3 en c3).ownBlock=some k->wp.heap.size<=k:=fun k hk=>by
      rcases fE with e | e
      ·rw [e] at hk;simp [Value.ownBlock] at hk;omega
      ·rw [e] at hk;cases hk;exact ((lJ)).size
     refine hK.out _ _ ?Jb (fun hHeld=>?_)
     case Jb=>exact dL.out _ kH
     clear hK K
     (try go_frame)
     replace hb8:=ay hf3 (fun e=>by simp [Value.ownBlock] at e;omega) hb8
     refine HT.branch (rs:=[13]) (by kernel_rfl) (by simp) ?_
     refine HT.qp (fun K hK=>?_) ?_
     ·have hc8:∀ j u,(eY h.nm d.next false nd0 none 0 0 none 0 0 none 0 0).toList[j]?=some u->∃ a,some (⟨g8,0,none⟩:Addr)=some a/\oU.cell? (a.add j)=some u:=fun j u hj=>⟨_,rfl,by rw [Addr.add_lit,Nat.zero_add,cell_of_row _ _ _ _ _ (0,0) hb8];simpa using hj⟩
      refine aJ oU rfl (.tmp 39) (.tmp 44) 105 rfl 108 _ 13 168 jk (.slice o3 en c3) en xs rfl ho3 (some ⟨g8,0,none⟩) 1 1 (eY h.nm d.next false nd0 none 0 0 none 0 0 none 0 0).toList rfl rfl hc8 (by simp [Value.oneCell']) (by unfold maxLen;omega) (by omega) ?_
      intro o4 c4 wz kX hf4 oP ug
      have dR:ah wp wz:=Fr.trans' (kH) hf4 (fun i hi e=>by have:=iL i e;omega)
      have oQ:∀ k,(Value.slice o4 (en+1) c4).ownBlock=some k->B+1+1 < k:=fun k hk=>by
       rcases oP with e | e
       ·rw [e] at hk;have:=iL k hk;omega
       ·rw [e] at hk;cases hk;have:=((kH)).size;omega
      refine hK.out _ _ ?TW (fun hHeld=>?_)
      case TW=>exact dL.out _ dR
      clear hK K
      (try go_frame)
      refine HT.branch (rs:=[14]) (by kernel_rfl) (by simp) ?_
      refine HT.qw (fun K hK=>?_) ?_
      ·obtain ⟨uj,um⟩:=lM (h:=nd0) (ps:=.nil) (ar:=.nil) (ag:=false) (o1:=none) (l1:=0) (c1:=0) (o2:=none) (l2:=0) (c2:=0) (ao:=none) (an:=0) (ac:=0) lS.out JF.out (sD.out.trans (dR)) eX (aC.nil _ _ _) (aY.nil _ _ _) (EvS.nil _ _ _) (Nat.le_refl _) kX (by omega) oQ
       go_simp
       go_at_call 37
       with_reducible refine Calls.mono (xO.out _ _ _ (dR) uj um) ?_
       rintro e w9 ⟨QD,QE,QF,QG,QH,QI,Ah,rfl,hk9,qI⟩
       have lT:=iO hk9 (Nat.lt_of_lt_of_le hzp (dR).size)
       have dZ:=(dR).trans qI
       unfold gZ
       refine hK.out _ _ ?Ue (fun hHeld=>?_)
       case Ue=>exact dL.out _ dZ
       clear hK K
       (try go_frame)
       refine HT.zi (by kernel_rfl) (fun K hK=>?_)
       have hbs:=ak dZ JG.out
       obtain ⟨⟨p0,p1,p2,p3,p4⟩,y0,y1,y2,y3,y4⟩:=five hbs
       have hend:=jX Ah hbs (ak dZ uT.out) (ak dZ zl.out) lT (sD.out.trans dZ) eX
       go_simp
       refine hK.out _ _ ?_
       clear hK K
       (try go_frame)
       refine HT.done (by kernel_rfl) ?_ _
       go_wp2_with fail
       go_meet
       exact hend
      exact HT.aU.nil
     exact HT.aU.nil
    exact HT.aU.nil
   exact HT.aU.nil
  refine HT.tY (fun K hK=>?_) ?_
  ·go_simp
   obtain ⟨uh,hwb⟩:∃ wb,wb=wd.alloc (.cells (eY h.nm d.next false nd0 none 0 0 none 0 0 none 0 0) 108):=⟨_,rfl⟩
   have pR:ah wd uh:=by rw [hwb];exact ah.alloc _ _
   have hb8:uh.heap[wd.heap.size]?=some (.cells (eY h.nm d.next false nd0 none 0 0 none 0 0 none 0 0) 108 (0,0)):=by rw [hwb];exact heap_alloc_new wd _
   have BL:wp.heap.size<=wd.heap.size:=(gI).size
   have wB:=(gI).trans pR
   have oO:=lt_of_block hb8
   change K _ (wd.alloc (.cells (eY h.nm d.next false nd0 none 0 0 none 0 0 none 0 0) 108))
   rw [<-hwb]
   clear hwb
   generalize wd.heap.size=g8 at hb8 BL oO ⊢
   refine hK.out _ _ ?Jc (fun hHeld=>?_)
   case Jc=>exact dL.out _ wB
   clear hK K
   (try go_frame)
   refine HT.branch (rs:=[5]) (by kernel_rfl) (by simp) ?_
   refine HT.CO (fun K hK=>?_) ?_
   ·go_simp
    obtain ⟨wC,qZ⟩:∃ wa,wa=uh.alloc (.cells #[] 108):=⟨_,rfl⟩
    have hqa:ah uh wC:=by rw [qZ];exact ah.alloc _ _
    have hown:=gB (size:=13) (show wC.heap[uh.heap.size]?=some (.cells #[] 108 (0,0)) by rw [qZ];exact heap_alloc_new uh _)
    have hgl:wp.heap.size<=uh.heap.size:=(wB).size
    have lK:=(wB).trans hqa
    rw [<-qZ]
    clear qZ
    generalize uh.heap.size=ga at hown hgl oO ⊢
    refine hK.out _ _ ?Jd (fun hHeld=>?_)
    case Jd=>exact dL.out _ lK
    clear hK K
    (try go_frame)
    replace hb8:=ak hqa hb8
    refine HT.branch (rs:=[7]) (by kernel_rfl) (by simp) ?_
    refine HT.jV (fun K hK=>?_) ?_
    ·refine aJ wC rfl (.tmp 37) (.tmp 38) 105 rfl 108 _ 13 168 jk (.slice (some ⟨ga,0,none⟩) 0 0) 0 [] rfl hown eo en ec xs rfl hxl ?ZE hxo (by unfold maxLen;omega) (by omega) ?_
     case ZE=>(intro j u hj;obtain ⟨b,off,e,hc⟩:=KZ.out j u hj;subst e;exact ⟨_,rfl,by rw [Addr.add_lit];exact (sD.out.trans (lK)).at hc⟩)
     intro o3 c3 oW ho3 hf3 fE hnil3
     simp only [Nat.zero_add,List.nil_append] at ho3 fE hnil3 ⊢
     have kJ:ah wp oW:=Fr.trans' (lK) hf3 (fun i hi e=>by simp [Value.ownBlock] at e;omega)
     have iL:∀ k,(Value.slice o3 en c3).ownBlock=some k->wp.heap.size<=k:=fun k hk=>by
      rcases fE with e | e
      ·rw [e] at hk;simp [Value.ownBlock] at hk;omega
      ·rw [e] at hk;cases hk;exact ((lK)).size
     refine hK.out _ _ ?Uf (fun hHeld=>?_)
     case Uf=>exact dL.out _ kJ
     clear hK K
     (try go_frame)
     replace hb8:=ay hf3 (fun e=>by simp [Value.ownBlock] at e;omega) hb8
     refine HT.branch (rs:=[13]) (by kernel_rfl) (by simp) ?_
     refine HT.qp (fun K hK=>?_) ?_
     ·have hc8:∀ j u,(eY h.nm d.next false nd0 none 0 0 none 0 0 none 0 0).toList[j]?=some u->∃ a,some (⟨g8,0,none⟩:Addr)=some a/\oW.cell? (a.add j)=some u:=fun j u hj=>⟨_,rfl,by rw [Addr.add_lit,Nat.zero_add,cell_of_row _ _ _ _ _ (0,0) hb8];simpa using hj⟩
      refine aJ oW rfl (.tmp 39) (.tmp 44) 105 rfl 108 _ 13 168 jk (.slice o3 en c3) en xs rfl ho3 (some ⟨g8,0,none⟩) 1 1 (eY h.nm d.next false nd0 none 0 0 none 0 0 none 0 0).toList rfl rfl hc8 (by simp [Value.oneCell']) (by unfold maxLen;omega) (by omega) ?_
      intro o4 c4 wE kX hf4 oP ug
      have dS:ah wp wE:=Fr.trans' (kJ) hf4 (fun i hi e=>by have:=iL i e;omega)
      have oQ:∀ k,(Value.slice o4 (en+1) c4).ownBlock=some k->B+1+1 < k:=fun k hk=>by
       rcases oP with e | e
       ·rw [e] at hk;have:=iL k hk;omega
       ·rw [e] at hk;cases hk;have:=((kJ)).size;omega
      refine hK.out _ _ ?aa3 (fun hHeld=>?_)
      case aa3=>exact dL.out _ dS
      clear hK K
      (try go_frame)
      refine HT.branch (rs:=[14]) (by kernel_rfl) (by simp) ?_
      refine HT.qw (fun K hK=>?_) ?_
      ·obtain ⟨uj,um⟩:=lM (h:=nd0) (ps:=.nil) (ar:=.nil) (ag:=false) (o1:=none) (l1:=0) (c1:=0) (o2:=none) (l2:=0) (c2:=0) (ao:=none) (an:=0) (ac:=0) lS.out JF.out (sD.out.trans (dS)) eX (aC.nil _ _ _) (aY.nil _ _ _) (EvS.nil _ _ _) (Nat.le_refl _) kX (by omega) oQ
       go_simp
       go_at_call 37
       with_reducible refine Calls.mono (xO.out _ _ _ (dS) uj um) ?_
       rintro e w9 ⟨QD,QE,QF,QG,QH,QI,Ah,rfl,hk9,qI⟩
       have lT:=iO hk9 (Nat.lt_of_lt_of_le hzp (dS).size)
       have eu:=(dS).trans qI
       unfold gZ
       refine hK.out _ _ ?Ug (fun hHeld=>?_)
       case Ug=>exact dL.out _ eu
       clear hK K
       (try go_frame)
       refine HT.zi (by kernel_rfl) (fun K hK=>?_)
       have hbs:=ak eu JG.out
       obtain ⟨⟨p0,p1,p2,p3,p4⟩,y0,y1,y2,y3,y4⟩:=five hbs
       have hend:=jX Ah hbs (ak eu uT.out) (ak eu zl.out) lT (sD.out.trans eu) eX
       go_simp
       refine hK.out _ _ ?_
       clear hK K
       (try go_frame)
       refine HT.done (by kernel_rfl) ?_ _
       go_wp2_with fail
       go_meet
       exact hend
      exact HT.aU.nil
     exact HT.aU.nil
    exact HT.aU.nil
   exact HT.aU.nil
  exact HT.aU.nil
 case rest =>
  rename World=>wq
  obtain ⟨rC,rD,rE,uU,uV,uX,qN,hb0,kF,hb2,hk5,hq5⟩:=hcut
  have oZ:=hid hb0
  have pq:=hid kF
  have uo:=hid hb2
  have Jg:=hid hk5
  have qM:=hid hq5
  have acU:B+1+1 < wq.heap.size:=lt_of_block hb2
  clear hb0 kF hb2 hk5 hq5 X5 dL hzp
  have hzp:=acU
  have X5:Hid (∀ W' W'',ah wq W'->Fr (fun k=>k=B+1+1) W' W''->(fun (W':World)=>(W'.cell? ⟨B,0,none⟩=some (.slice rC rD rE)/\W'.cell? ⟨B,1,none⟩=some (.int .i64 rt.2.next)/\W'.cell? ⟨B,2,none⟩=some (.int .i64 most)/\W'.cell? ⟨B,3,none⟩=some (.slice uU uV uX)/\W'.cell? ⟨B,4,none⟩=some (.int .i64 qN))/\(W'.cell? ⟨B+1,0,none⟩=some (.int .i64 h.k)/\W'.cell? ⟨B+1,1,none⟩=some (.string h.nm)/\W'.cell? ⟨B+1,2,none⟩=some (.int .i64 h.n)/\W'.cell? ⟨B+1,3,none⟩=some (.int .i64 h.tk)/\W'.cell? ⟨B+1,4,none⟩=some (.int .i64 h.tn)/\W'.cell? ⟨B+1,5,none⟩=some (.slice o1 l1 c1)/\W'.cell? ⟨B+1,6,none⟩=some (.slice (some ⟨b9,aH,none⟩) l2 c2)/\W'.cell? ⟨B+1,7,none⟩=some (.int .i64 h.fr)/\W'.cell? ⟨B+1,8,none⟩=some (.int .i64 h.en))/\(W'.cell? ⟨b9,aH,none⟩=some (.int .i64 u.k)/\W'.cell? ⟨b9,aH+1,none⟩=some (.string u.nm)/\W'.cell? ⟨b9,aH+2,none⟩=some (.int .i64 u.n)/\W'.cell? ⟨b9,aH+3,none⟩=some (.int .i64 u.tk)/\W'.cell? ⟨b9,aH+4,none⟩=some (.int .i64 u.tn)/\W'.cell? ⟨b9,aH+5,none⟩=some (.slice kS kT d1u)/\W'.cell? ⟨b9,aH+6,none⟩=some (.slice kU kV kW)/\W'.cell? ⟨b9,aH+7,none⟩=some (.int .i64 u.fr)/\W'.cell? ⟨b9,aH+8,none⟩=some (.int .i64 u.en))) W''):=fun W' W'' hq hf=>by
   obtain ⟨k,_⟩:=five (ay hf (by intro e;have e':B=B+1+1:=e;omega) (ak hq oZ.out))
   exact ⟨k,aA (ay hf (by intro e;have e':B+1=B+1+1:=e;omega) (ak hq pq.out)),(gW vO.out (qM.out.trans hq)).fr hf (by intro e;have e':b9=B+1+1:=e;have:=vO.out.lt;omega)⟩
  have dL:Hid (∀ W',ah wq W'->(fun (W':World)=>(W'.cell? ⟨B,0,none⟩=some (.slice rC rD rE)/\W'.cell? ⟨B,1,none⟩=some (.int .i64 rt.2.next)/\W'.cell? ⟨B,2,none⟩=some (.int .i64 most)/\W'.cell? ⟨B,3,none⟩=some (.slice uU uV uX)/\W'.cell? ⟨B,4,none⟩=some (.int .i64 qN))/\(W'.cell? ⟨B+1,0,none⟩=some (.int .i64 h.k)/\W'.cell? ⟨B+1,1,none⟩=some (.string h.nm)/\W'.cell? ⟨B+1,2,none⟩=some (.int .i64 h.n)/\W'.cell? ⟨B+1,3,none⟩=some (.int .i64 h.tk)/\W'.cell? ⟨B+1,4,none⟩=some (.int .i64 h.tn)/\W'.cell? ⟨B+1,5,none⟩=some (.slice o1 l1 c1)/\W'.cell? ⟨B+1,6,none⟩=some (.slice (some ⟨b9,aH,none⟩) l2 c2)/\W'.cell? ⟨B+1,7,none⟩=some (.int .i64 h.fr)/\W'.cell? ⟨B+1,8,none⟩=some (.int .i64 h.en))/\(W'.cell? ⟨b9,aH,none⟩=some (.int .i64 u.k)/\W'.cell? ⟨b9,aH+1,none⟩=some (.string u.nm)/\W'.cell? ⟨b9,aH+2,none⟩=some (.int .i64 u.n)/\W'.cell? ⟨b9,aH+3,none⟩=some (.int .i64 u.tk)/\W'.cell? ⟨b9,aH+4,none⟩=some (.int .i64 u.tn)/\W'.cell? ⟨b9,aH+5,none⟩=some (.slice kS kT d1u)/\W'.cell? ⟨b9,aH+6,none⟩=some (.slice kU kV kW)/\W'.cell? ⟨b9,aH+7,none⟩=some (.int .i64 u.fr)/\W'.cell? ⟨b9,aH+8,none⟩=some (.int .i64 u.en))) W'):=fun W' hq=>X5.out W' W' hq (Fr.refl _ _)
  have gX:Hid (∀ W',ah wq W'->Calls Tryz.prog 58 #[gZ rC rD rE rt.2.next most uU uV uX qN,.agg #[.int .i64 1,.int .i64 d.next,.slice none 0 0],.agg #[.int .i64 1,.int .i64 d2.next,.slice none 0 0],.agg #[.int .i64 h.fr,.int .i64 h.en]] W' (sH (RB R B) W' most res.2)):=fun W' hq=>by
   have k:=add_any (o1:=none) (l1:=0) (c1:=0) (o2:=none) (l2:=0) (c2:=0) qN (Jg.out.stay hq) hm (tv d.next) (tv d2.next) h.fr h.en (aC.nil _ _ _) (aC.nil _ _ _) (by show Fo.nil.size<=_;decide) (by show Fo.nil.size<=_;decide)
   rw [HR2.out] at k
   exact k
  unfold gZ at gX
  go_upto_region 8 with fail
  refine bZ 10 dL.out (by kernel_rfl) (fun hHeld=>?_)
  (try dsimp only at hHeld)
  have gI:=ah.drew wq
  generalize wq.drew=wd at gI hHeld ⊢
  refine HT.tk 0 rfl ?_
  go_frame
  refine HT.tk 1 rfl ?_
  go_frame
  refine HT.tk 3 rfl ?_
  go_frame
  refine HT.tk 5 rfl ?_
  go_frame
  refine HT.tk 6 rfl ?_
  go_frame
  refine HT.tk 8 rfl ?_
  go_frame
  refine HT.branch (rs:=[2]) (by kernel_rfl) (by simp) ?_
  refine HT.rU (fun K hK=>?_) ?_
  ·go_simp
   go_at_call 59
   with_reducible refine Calls.mono (gy _ _) ?_
   rintro e wv1 ⟨rfl,pz⟩
   have fA:=gI.trans pz
   refine hK.out _ _ ?Uh (fun hHeld=>?_)
   case Uh=>exact dL.out _ fA
   clear hK K
   (try go_frame)
   refine HT.branch (rs:=[4]) (by kernel_rfl) (by simp) ?_
   refine HT.ET (fun K hK=>?_) ?_
   ·go_simp
    go_at_call 59
    with_reducible refine Calls.mono (gy _ _) ?_
    rintro e wv2 ⟨rfl,rG⟩
    have fZ:=fA.trans rG
    refine hK.out _ _ ?Ui (fun hHeld=>?_)
    case Ui=>exact dL.out _ fZ
    clear hK K
    (try go_frame)
    refine HT.branch (rs:=[7]) (by kernel_rfl) (by simp) ?_
    refine HT.jV (fun K hK=>?_) ?_
    ·go_simp
     go_at_call 58
     with_reducible refine Calls.mono (gX.out _ fZ) ?_
     rintro e DJ ⟨lo3,iP,iQ,iR,iU,iV,iy,rfl,hk3,C9⟩
     have lT:=iO hk3 (Nat.lt_of_lt_of_le hzp fZ.size)
     have nV:=fZ.trans C9
     unfold gZ
     refine hK.out _ _ ?Uj (fun hHeld=>?_)
     case Uj=>exact dL.out _ nV
     clear hK K
     (try go_frame)
     refine HT.branch (rs:=[9]) (by kernel_rfl) (by simp) ?_
     refine HT.EW (fun K hK=>?_) ?_
     ·have hbs:=ak nV uo.out
      obtain ⟨⟨d0,d1,d2,d3,d4⟩,y0,y1,y2,y3,y4⟩:=five hbs
      go_simp
      have hf:=eP DJ (B+1+1) (.slice lo3 iP iQ) (.int .i64 res.2.next) (.int .i64 most) (.slice iR iU iV) (.int .i64 iy)
      have hbf:=bQ (a:=.slice lo3 iP iQ) (b:=.int .i64 res.2.next) (c:=.int .i64 most) (d:=.slice iR iU iV) (e:=.int .i64 iy) hbs
      change K _ (iK DJ (B+1+1) (.slice lo3 iP iQ) (.int .i64 res.2.next) (.int .i64 most) (.slice iR iU iV) (.int .i64 iy))
      clear d0 d1 d2 d3 d4 y0 y1 y2 y3 y4
      have hend:=mD lT (qM.out.trans nV) hf eX
      have hsf:=X5.out _ _ nV hf
      generalize iK DJ (B+1+1) (.slice lo3 iP iQ) (.int .i64 res.2.next) (.int .i64 most) (.slice iR iU iV) (.int .i64 iy)=wf at *
      refine hK.out _ _ ?Uk (fun hHeld=>?_)
      case Uk=>exact hsf
      clear hK K
      (try go_frame)
      refine HT.Zm (by kernel_rfl) (fun K hK=>?_)
      go_simp
      refine hK.out _ _ ?_
      clear hK K
      (try go_frame)
      refine HT.done (by kernel_rfl) ?_ _
      obtain ⟨⟨f0,f1,f2,f3,f4⟩,_⟩:=five hbf
      generalize Ag:bodyPost Tryz.prog Tryz.f60 (KpQ R W most res)=BP
      go_wp2_with fail
      rw [<-Ag]
      refine bodyPost_ret (by simp [results,Tryz.results60,go_sem,f0,f1,f2,f3,f4]<;>rfl) rfl ?_
      exact ⟨lo3,iP,iQ,iR,iU,iV,iy,by rw [HR1.out],hend.1,hend.2⟩
     exact HT.aU.nil
    exact HT.aU.nil
   exact HT.aU.nil
  exact HT.aU.nil
end Em
end
section
open Go.RowKit
namespace Em
structure PR (z:Nat) (W:World) (o:Option Addr) (i c:Nat) (ns:List Nat) (xs:List Value):Prop where
 len:ns.length=i
 own:W.ownsRow 0 24 3 (.slice o i c) i xs
 low:∀ k,(Value.slice o i c).ownBlock=some k->z<=k
 cells:uP xs (ns.map tv)
theorem PR.nil (z:Nat) (W:World):PR z W none 0 0 [] []:=⟨rfl,World.ownsRow_nil _ _ _ _,fun k hk=>(by cases hk),rfl⟩
theorem PR.fr {z:Nat} {S:Nat->Prop} {W W':World} {o:Option Addr} {i c:Nat} {ns:List Nat} {xs:List Value} (h:PR z W o i c ns xs) (hf:Fr S W W') (hs:∀ k,S k->k < z):PR z W' o i c ns xs :=
 ⟨h.len,aZ h.own hf (fun k hk e=>by have:=hs k e;have:=h.low k hk;omega),h.low,h.cells⟩
theorem PR.stay {z:Nat} {W W':World} {o:Option Addr} {i c:Nat} {ns:List Nat} {xs:List Value} (h:PR z W o i c ns xs) (hq:ah W W'):PR z W' o i c ns xs:=h.fr hq (fun _ h=>h.elim)
theorem PR.lt {z:Nat} {W:World} {o:Option Addr} {i c:Nat} {ns:List Nat} {xs:List Value} (h:PR z W o i c ns xs):∀ k,(Value.slice o i c).ownBlock=some k->k < W.heap.size:=fun k hk=>(h.own.lt k hk).2
theorem PR.snoc {z:Nat} {W w':World} {o:Option Addr} {i c:Nat} {ns:List Nat} {xs:List Value} (h:PR z W o i c ns xs) (n:Nat) {o':Option Addr} {c1 g c':Nat} (ho:w'.ownsRow 0 24 3 (.slice (some ⟨g,0,none⟩) (i+1) c') (i+1) (xs++[.int .i64 1,.int .i64 n,.slice o' 0 c1])) (hz:z<=W.heap.size) (hg:(Value.slice o i c).ownBlock=some g∨W.heap.size<=g):PR z w' (some ⟨g,0,none⟩) (i+1) c' (ns++[n]) (xs++[.int .i64 1,.int .i64 n,.slice o' 0 c1]):=by
 refine ⟨by simp [h.len],ho,fun k hk=>?_,?_⟩
 ·have e:g=k:=by simpa [Value.ownBlock] using hk
  subst e
  rcases hg with e | e
  ·exact h.low _ e
  ·omega
 ·have:=uP.snoc n o' c1 (ns.map tv) xs h.cells
  simpa using this
def Gy (R:Nat->Prop) (B:Nat) (v:Value) (k:Nat):Prop:=RB R B k/\v.ownBlock≠some k
theorem Au {R:Nat->Prop} {w:World} {B most:Nat} {d:Dk} {lo:Option Addr} {ln lc:Nat} {oo:Option Addr} {on oc:Nat} (hk:fJ (RB R B) w most d lo ln lc oo on oc):fJ (Gy R B (.slice none 0 0)) w most d lo ln lc oo on oc:=hk.mono (fun _ _ h=>⟨h,by simp [Value.ownBlock]⟩)
theorem Aw {R:Nat->Prop} {w:World} {B most:Nat} {v:Value} {d:Dk} {lo:Option Addr} {ln lc:Nat} {oo:Option Addr} {on oc:Nat} (hk:fJ (Gy R B v) w most d lo ln lc oo on oc):fJ (RB R B) w most d lo ln lc oo on oc:=hk.mono (fun _ _ h=>h.1)
theorem xP {R:Nat->Prop} {w w':World} {B most:Nat} {v:Value} {d:Dk} {lo:Option Addr} {ln lc:Nat} {oo:Option Addr} {on oc:Nat} (hk:fJ (Gy R B v) w most d lo ln lc oo on oc) (hf:Fr (fun k=>v.ownBlock=some k) w w') {g n c:Nat} (hg:v.ownBlock=some g∨w.heap.size<=g):fJ (Gy R B (.slice (some ⟨g,0,none⟩) n c)) w' most d lo ln lc oo on oc :=
 hk.fr hf (fun k hl h=>⟨⟨h.1,fun e=>by
  have e':g=k:=by simpa [Value.ownBlock] using e
  subst e'
  rcases hg with e | e
  ·exact h.2 e
  ·omega⟩,h.2⟩)
theorem xQ {R:Nat->Prop} {w w':World} {B most:Nat} {v:Value} {fin:Dk} {lo:Option Addr} {ln lc:Nat} {oo:Option Addr} {on oc:Nat} (hk:fJ (fun k=>Gy R B v k∨w.heap.size<=k) w' most fin lo ln lc oo on oc) (hz:B+1+1 < w.heap.size) (hv:∀ k,v.ownBlock=some k->k < w.heap.size):fJ (Gy R B v) w' most fin lo ln lc oo on oc :=
 hk.mono (fun k _ h=>h.elim id (fun h=>⟨.inr (by omega),fun e=>by have:=hv k e;omega⟩))
theorem WY {R:Nat->Prop} {wx w':World} {B most:Nat} {v:Value} {d:Dk} {lo:Option Addr} {ln lc:Nat} {oo:Option Addr} {on oc:Nat} (hk:fJ (Gy R B v) wx most d lo ln lc oo on oc) (hf:Fr (fun k=>k=B) wx w'):fJ (Gy R B v) w' most d lo ln lc oo on oc :=
 hk.fr hf (fun k _ h=>⟨h,fun e=>by have e':k=B:=e;rcases h.1 with h | h<;>omega⟩)
theorem nG {R:Nat->Prop} {W:World} {B z:Nat} {v:Value} (hB:W.heap.size=B) (hv:∀ k,v.ownBlock=some k->z<=k) (hz:B<=z):∀ k,k < W.heap.size->R k->Gy R B v k/\¬ False:=fun k hk hr=>⟨⟨.inl ⟨hr,by omega⟩,fun e=>by have:=hv k e;omega⟩,fun h=>h⟩
def PtS (R:Nat->Prop) (W:World) (B z:Nat) (most:Nat) (h:Nd) (o1:Option Addr) (l1 c1:Nat) (o2:Option Addr) (l2 c2:Nat) (e:aS) (vs:List (aS->Dm Nat)) (fin:List Nat × Dk) (i:Nat) (o:Option Addr) (c:Nat) (wx:World):Prop :=
 ∃ (di:Dk) (ns:List Nat) (xs:List Value) (lo:Option Addr) (ln lc:Nat) (oo:Option Addr) (on oc:Nat) (inn:Int),i<=vs.length/\ns++(dmap e (vs.drop i) di).1=fin.1/\(dmap e (vs.drop i) di).2=fin.2/\PR z wx o i c ns xs /\
  wx.heap[B]?=some (.cells (r5 lo ln lc di.next most oo on oc inn) 70 (0,0))/\wx.heap[B+1]?=some (.cells (cells9 h o1 l1 c1 o2 l2 c2) 29 (0,0))/\wx.heap[B+1+1]?=some (.cells #[.slice none 0 0,.int .i64 0,.int .i64 0,.slice none 0 0,.int .i64 0] 70 (0,0)) /\
  fJ (Gy R B (.slice o i c)) wx most di lo ln lc oo on oc/\ah W wx/\z<=wx.heap.size
def X6 (R:Nat->Prop) (W:World) (B z:Nat) (most:Nat) (h:Nd) (o1:Option Addr) (l1 c1:Nat) (o2:Option Addr) (l2 c2:Nat) (e:aS) (vs:List (aS->Dm Nat)) (fin:List Nat × Dk) (p t:Value) (wx:World):Prop :=
 ∃ (i:Nat) (o:Option Addr) (c:Nat),t=.int .i64 i/\p=.slice o i c/\PtS R W B z most h o1 l1 c1 o2 l2 c2 e vs fin i o c wx
theorem qL (e:aS):∀ (vs:List (aS->Dm Nat)) (i:Nat) (v:aS->Dm Nat) (d:Dk),vs[i]?=some v->dmap e (vs.drop i) d=((v e d).1::(dmap e (vs.drop (i+1)) (v e d).2).1,(dmap e (vs.drop (i+1)) (v e d).2).2)
 | [],i,v,m,h=>by simp at h
 | u::r,0,v,m,h=>by simp at h;subst h;rfl
 | u::r,i+1,v,m,h=>by simpa using qL e r i v m (by simpa using h)
theorem lN (most:Nat):∀ f:To,(dD most f).length=f.length
 | .nil=>rfl
 | .cons _ _ r=>by simp only [dD,List.length_cons,To.length];rw [lN most r]
theorem Az {R : Nat -> Prop} {W w9 : World} {B z most : Nat} {h : Nd} {o1 : Option Addr} {l1 c1 : Nat} {o2 : Option Addr} {l2 c2 : Nat} {e : aS} {vs : List (aS -> Dm Nat)} {fin : List Nat × Dk} {i : Nat} {o : Option Addr} {c : Nat} {di : Dk} {ns : List Nat} {xs : List Value} {lo : Option Addr} {ln lc : Nat} {oo : Option Addr} {on oc : Nat} {a' b' c' d' e' : Value} (inn : Int) (hi : i <= vs.length) (h1 : ns ++ (dmap e (vs.drop i) di).1 = fin.1) (h2 : (dmap e (vs.drop i) di).2 = fin.2) (hp : PR z w9 o i c ns xs)
    (hb0:w9.heap[B]?=some (.cells #[a',b',c',d',e'] 70 (0,0))) (hb1:w9.heap[B+1]?=some (.cells (cells9 h o1 l1 c1 o2 l2 c2) 29 (0,0))) (hb2:w9.heap[B+1+1]?=some (.cells #[.slice none 0 0,.int .i64 0,.int .i64 0,.slice none 0 0,.int .i64 0] 70 (0,0)))
    (hk:fJ (Gy R B (.slice o i c)) w9 most di lo ln lc oo on oc) (hq:ah W w9) (hB:W.heap.size=B) (hz:B+1+1 < z) (hs:z<=w9.heap.size):PtS R W B z most h o1 l1 c1 o2 l2 c2 e vs fin i o c (iK w9 B (.slice lo ln lc) (.int .i64 di.next) (.int .i64 most) (.slice oo on oc) (.int .i64 inn)):=by
 have hf:=eP w9 B (.slice lo ln lc) (.int .i64 di.next) (.int .i64 most) (.slice oo on oc) (.int .i64 inn)
 exact ⟨di,ns,xs,lo,ln,lc,oo,on,oc,inn,hi,h1,h2,hp.fr hf (fun k e=>by have e':k=B:=e;omega),bQ hb0,ay hf (by intro h;have h':B+1=B:=h;omega) hb1,ay hf (by intro h;have h':B+1+1=B:=h;omega) hb2,WY hk hf,Fr.trans' hq hf (fun i hi e=>by have e':i=B:=e;omega),Nat.le_trans hs hf.size⟩
theorem PR.at {R:Nat->Prop} {z B:Nat} {W:World} {o:Option Addr} {i c:Nat} {ns:List Nat} {xs:List Value} (h:PR z W o i c ns xs) (hz:B+1+1 < z) (hm:i<=maxLen):TI (RB R B) W o (ns.map tv)/\i<=c:=by
 rcases h.own.2 with ⟨h1,h2⟩ | ⟨g,cap,cur,h1,h2,h3,h4,h5,_⟩
 ·injection h1 with e1 e2 e3
  refine ⟨⟨by rw [List.length_map,h.len];exact hm,.inl ?_⟩,by omega⟩
  have:=h.len
  cases ns with
  | nil=>rfl
  | cons n r=>simp at this;omega
 ·injection h1 with e1 e2 e3
  subst e1
  refine ⟨⟨by rw [List.length_map,h.len];exact hm,.inr ⟨g,rfl,.inr (by have:=h.low g rfl;omega),h.lt g rfl,xs,h.cells,fun j u hj=>?_⟩⟩,by omega⟩
  have:=h.own.cells (g:=g) rfl j u hj
  simpa [Addr.add_lit] using this
theorem E8:∀ ns:List Nat,(oL (ns.map tv)).size=ns.length
 | []=>rfl
 | n::r=>by
  show (oL (tv n::r.map tv)).size=_
  simp only [oL,tv,Fo.size]
  rw [E8 r,List.length_cons]
  simp;omega
end Em
end
end Go.Proofs.YtcninopmelmajaaGreatDoor
