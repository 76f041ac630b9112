/-
  Texts laid together (ScNm, ScIdx, TyAux, TeRef, TeCopy): laws and walks, with their conditions.
-/
import Derived.ArgAppend
import Derived.Test.YtcninopmelmajaaDoorTX11
set_option maxHeartbeats 8000000
set_option maxRecDepth 1000000
namespace Go.Proofs.YtcninopmelmajaaDoor
open Go.Lib (hid)
section
open Go.RowKit
namespace Sc
def iY (T:Nat->Prop) (w:World) (o:Option Addr) (n:Nat) (e:List ByteArray):Prop :=
 n=e.length/\n<=maxLen/\(0 < n->∃ b,o=some ⟨b,0,none⟩/\T b/\∀ i s,e.reverse[i]?=some s->w.cell? ⟨b,i,none⟩=some (.string s))
theorem iY.nil (T:Nat->Prop) (w:World) (o:Option Addr):iY T w o 0 []:=⟨rfl,Nat.zero_le _,fun h=>absurd h (Nat.lt_irrefl _)⟩
theorem iY.lt {T:Nat->Prop} {w:World} {b n:Nat} {e:List ByteArray} (h:iY T w (some ⟨b,0,none⟩) n e) (hn:0 < n):b < w.heap.size/\T b:=by
 obtain ⟨b',he,ht,hc⟩:=h.2.2 hn;injection he with he;injection he with he
 subst he;have hl:0 < e.reverse.length:=by simp;have:=h.1;omega
 exact ⟨World.block_lt_of_cell? w _ (hc 0 _ (List.getElem?_eq_getElem hl)),ht⟩
theorem iY.fr {T T' S:Nat->Prop} {w w':World} {o:Option Addr} {n:Nat} {e:List ByteArray} (h:iY T w o n e) (hf:Fr S w w') (hT:∀ k,k < w.heap.size->T k->T' k/\¬ S k):iY T' w' o n e:=by
 refine ⟨h.1,h.2.1,fun hn=>?_⟩;obtain ⟨b,he,ht,hc⟩:=h.2.2 hn;subst he;have hl:=(h.lt hn).1;obtain ⟨h1,h2⟩:=hT b hl ht;exact ⟨b,rfl,h1,fun i s hi=>(hf.aY hl h2).trans (hc i s hi)⟩
theorem iY.stay {T:Nat->Prop} {w w':World} {o:Option Addr} {n:Nat} {e:List ByteArray} (h:iY T w o n e) (hq:ah w w'):iY T w' o n e:=h.fr hq (fun _ _ hk=>⟨hk,fun h=>h⟩)
theorem iY.at {T:Nat->Prop} {w:World} {o:Option Addr} {n:Nat} {e:List ByteArray} (h:iY T w o n e) {i:Nat} {s:ByteArray} (hi:e[i]?=some s):∃ b,o=some ⟨b,0,none⟩/\w.cell? ⟨b,n-1-i,none⟩=some (.string s):=by
 have hl:=(List.getElem?_eq_some_iff.1 hi).1;obtain ⟨b,he,_,hc⟩:=h.2.2 (by have:=h.1;omega);refine ⟨b,he,hc _ s ?_⟩;rw [List.getElem?_reverse (by have:=h.1;omega),h.1];rw [<-hi];congr 1;omega
theorem iY.G5 {T:Nat->Prop} {w:World} {base g n c:Nat} {e:List ByteArray} {s:ByteArray} (ho:w.ownsRow base 9 1 (.slice (some ⟨g,0,none⟩) n c) n (e.reverse.map Value.string++[.string s])) (hn:n=e.length+1) (hm:n<=maxLen) (ht:T g):iY T w (some ⟨g,0,none⟩) n (s::e):=by
 refine ⟨by simpa using hn,hm,fun _=>⟨g,rfl,ht,fun i u hi=>?_⟩⟩;have hx:(e.reverse.map Value.string++[.string s])[i]?=some (.string u):=by
  have:e.reverse.map Value.string++[Value.string s]=((s::e).reverse).map Value.string:=by simp
  rw [this,List.getElem?_map,hi];rfl
 have:=ho.cells (g:=g) rfl i (.string u) hx;simpa [Addr.add_lit] using this
theorem mW:Elem Tryd.prog 56 9 (.string ⟨#[]⟩) 1 16 :=
 ⟨Tryd.underlying56,by kernel_rfl,by decide,by decide⟩
theorem iY.none {T:Nat->Prop} {w:World} {n:Nat} {e:List ByteArray} (h:iY T w none n e):n=0:=by
 rcases Nat.eq_zero_or_pos n with h0 | h0
 ·exact h0
 ·obtain ⟨b,he,_⟩:=h.2.2 h0;cases he
theorem Je {T:Nat->Prop} {w:World} {o:Option Addr} {n:Nat} {e:List ByteArray} (h:iY T w o n e):∀ b,o=some b->∀ j u,(e.reverse.map Value.string)[j]?=some u->w.cell? (b.add j)=some u:=by
 rintro b rfl j u hj;have hl:=(List.getElem?_eq_some_iff.1 hj).1;obtain ⟨b',he,_,hc⟩:=h.2.2 (by have:=h.1;simp at hl;omega);injection he with he
 subst he;rw [List.getElem?_map] at hj;obtain ⟨s,hs,rfl⟩:=Option.map_eq_some_iff.1 hj;rw [Addr.add_lit,Nat.zero_add];exact hc j s hs
theorem NH {e:List ByteArray} {s:ByteArray} {i:Nat} (hn:s ∉ e.take i) (hi:e.length<=i):ix e s=-1:=Tf (by rwa [List.take_of_length_le hi] at hn)
theorem NI {e:List ByteArray} {s a:ByteArray} {i:Nat} (hn:s ∉ e.take i) (hi:e[i]?=some a) (ha:a≠s):s ∉ e.take (i+1):=by
 rw [List.take_add_one,hi];simp only [Option.toList_some,List.mem_append,List.mem_singleton,not_or];exact ⟨hn,fun h=>ha h.symm⟩
theorem str_eq {a s:ByteArray}:(a.toList == s.toList)=true↔a=s:=by
 rw [beq_iff_eq];constructor
 ·intro h;rw [ByteArray.toList_eq,ByteArray.toList_eq] at h;exact ByteArray.ext (Array.toList_inj.1 h)
 ·intro h;rw [h]
end Sc
end
section
open Go.RowKit
namespace Sc
theorem PG (k:Int) (i:Nat) (w:World):Calls Tryd.prog 75 #[.int .i64 k,.int .i64 (i:Nat)] w fun e w'=>e=.returned (.bool (mF k i))/\w=w':=by
 unfold mF;have e1:((i:Int) == 1)=(i == 1):=by rw [Bool.eq_iff_iff,beq_iff_eq,beq_iff_eq];omega
 generalize (i == 1)=r at *;cases h4:(k == 4)
 ·cases h7:(k == 7)
  ·cases h6:(k == 6)
   ·go_enter Tryd.func75,Tryd.ntmps75;go_wp2_with fail;go_ret;exact ⟨rfl,rfl⟩
   ·go_enter Tryd.func75,Tryd.ntmps75;go_wp2_with fail;go_ret;exact ⟨by simp,rfl⟩
  ·go_enter Tryd.func75,Tryd.ntmps75;go_wp2_with fail;go_ret;exact ⟨rfl,rfl⟩
 ·go_enter Tryd.func75,Tryd.ntmps75;go_wp2_with fail;go_ret;exact ⟨rfl,rfl⟩
theorem Ti (o:Option Addr) (n c:Nat) (w:World) (hc:n<=c) (_:o=none->n=0):Calls Tryd.prog 76 #[.slice o n c] w fun e w'=>e=.returned (.slice o n n)/\w=w':=by
 go_enter Tryd.func76,Tryd.ntmps76;go_wp2_with fail;go_ret;exact ⟨rfl,rfl⟩
theorem Fq (T:Nat->Prop) (e:List ByteArray) (s:ByteArray) (o:Option Addr) (n c:Nat) (w:World) (h:iY T w o n e) (hz:n<=1000000):Calls Tryd.prog 57 #[.slice o n c,.string s] w fun x w'=>x=.returned (.int .i64 (ix e s))/\w=w':=by
 have H:=hid h;have HN:=hid h.1;clear h;go_enter Tryd.func57,Tryd.ntmps57;go_wp2_with fail;go_loopw [8] (fun t wr=>∃ i:Nat,t=.int .i64 i/\i<=n/\s ∉ e.take i/\w=wr) (fun t _=>n-(intOf t).toNat)
 case atStart=>exact ⟨0,rfl,Nat.zero_le _,by simp,rfl⟩
 case round =>
  obtain ⟨i,rfl,hi,hns,rfl⟩:=hrel
  by_cases hlt:i < n
  ·have hlt':(i:Int) < n:=by omega
   obtain ⟨a,ha⟩:∃ a,e[i]?=some a:=⟨_,List.getElem?_eq_getElem (by have:=HN.out;omega)⟩;obtain ⟨b,rfl,c0⟩:=H.out.at ha;have hidx:((n:Int)-1-i)=((n-1-i:Nat):Int):=by omega
   have hb1:(0:Int)<=(n:Int)-1-i:=by omega
   have hb2:(n:Int)-1-i < n:=by omega
   have HNS:=hid hns;have HA:=hid ha;clear hns ha;cases hx:(a.toList == s.toList)
   ·go_wp2_with fail;go_roundw
    case rel=>exact ⟨i+1,by go_num,by omega,NI HNS.out HA.out (fun e=>by rw [str_eq.2 e] at hx;cases hx),trivial⟩
    case measure=>simp [intOf];omega
   ·have HR:Hid (ix e s=i):=NJ (by rw [<-str_eq.1 hx];exact HA.out) HNS.out;go_wp2_with fail;go_ret;exact ⟨by first | (rw [HR.out];done) | (rw [HR.out];rfl),rfl⟩
  ·have hlt':¬ (i:Int) < n:=by omega
   have HR:Hid (ix e s=-1):=NH hns (by have:=HN.out;omega);clear hns;go_wp2_with fail;go_ret;exact ⟨by first | (rw [HR.out];done) | (rw [HR.out];rfl),rfl⟩
theorem G6 (T:Nat->Prop) (e:List ByteArray) (s:ByteArray) (o:Option Addr) (n c:Nat) (w:World) (h:iY T w o n e) (hz:n<=1000000):Calls Tryd.prog 18 #[.slice o n c,.string s] w fun x w'=>x=.returned (.int .i64 (ix e s))/\w=w':=by
 have H:=hid h;have HN:=hid h.1;clear h;go_enter Tryd.func18,Tryd.ntmps18;go_wp2_with fail;go_loopw [5] (fun t wr=>∃ (i:Nat) (p:Int),t=.int .i64 p/\p=(n:Int)-1-i/\i<=n/\s ∉ e.take i/\w=wr) (fun t _=>(intOf t+1).toNat)
 case atStart=>exact ⟨0,(n:Int)-1,rfl,by omega,Nat.zero_le _,by simp,rfl⟩
 case round =>
  obtain ⟨i,p,rfl,hp,hi,hns,rfl⟩:=hrel
  by_cases hlt:i < n
  ·have hp0:(0:Int)<=p:=by omega
   have acN:p≥0:=hp0;have hpn:p < n:=by omega
   obtain ⟨q,hq⟩:∃ q:Nat,p=q:=⟨p.toNat,by omega⟩;subst hq;obtain ⟨a,ha⟩:∃ a,e[i]?=some a:=⟨_,List.getElem?_eq_getElem (by have:=HN.out;omega)⟩;obtain ⟨b,rfl,c0⟩:=H.out.at ha;rw [show n-1-i=q from by omega] at c0;have hidx:(n:Int)-1-q=i:=by omega
   have HNS:=hid hns;have HA:=hid ha;have HP:=hid hp;clear hns ha hp;cases hx:(a.toList == s.toList)
   ·go_wp2_with fail;go_roundw
    case rel=>exact ⟨i+1,(q:Int)-1,rfl,by have:=HP.out;omega,by omega,NI HNS.out HA.out (fun e=>by rw [str_eq.2 e] at hx;cases hx),trivial⟩
    case measure=>simp [intOf]<;>omega
   ·have HR:Hid (ix e s=i):=NJ (by rw [<-str_eq.1 hx];exact HA.out) HNS.out;go_wp2_with fail;go_ret;exact ⟨by first | (rw [HR.out];done) | (rw [HR.out];rfl),rfl⟩
  ·have hp0:¬ (0:Int)<=p:=by omega
   have acN:¬ p≥0:=hp0;have HR:Hid (ix e s=-1):=NH hns (by have:=HN.out;omega);clear hns hp;go_wp2_with fail;go_ret;exact ⟨by first | (rw [HR.out];done) | (rw [HR.out];rfl),rfl⟩
end Sc
end
section
open Go.RowKit
theorem acO {W:World} {b:Nat} {k n:Int} {o:Option Addr} {len cap:Nat} {ps:Fo} (hb:W.heap[b]?=some (.cells #[.int .i64 k,.int .i64 n,.slice o len cap] 25 (0,0))) (h1:nJ W o len ps):nJ W (some ⟨b,0,none⟩) 1 (.cons k n ps .nil) :=
 ⟨rfl,by decide,fun _=>⟨_,0,rfl,by rw [cell_of_row _ _ _ _ _ (0,0) hb];rfl,by rw [cell_of_row _ _ _ _ _ (0,0) hb];rfl,⟨o,len,cap,by rw [cell_of_row _ _ _ _ _ (0,0) hb];rfl,h1.1,h1.2.1,h1.2.2⟩,trivial⟩⟩
theorem Tj {w : World} {b : Nat} {a0 a1 a2 a3 a4 : Value} {t : TypeId} {G : Prop} (h : w.heap[b]? = some (.cells #[a0, a1, a2, a3, a4] t (0, 0)))
    (k:w.cell? ⟨b,0,none⟩=some a0->w.cell? ⟨b,1,none⟩=some a1->w.cell? ⟨b,2,none⟩=some a2->w.cell? ⟨b,3,none⟩=some a3->w.cell? ⟨b,4,none⟩=some a4 ->
     w.frozen? ⟨b,0,none⟩=false->w.frozen? ⟨b,1,none⟩=false->w.frozen? ⟨b,2,none⟩=false->w.frozen? ⟨b,3,none⟩=false->w.frozen? ⟨b,4,none⟩=false->w.heap[b]?=some (.cells #[a0,a1,a2,a3,a4] t (0,0))->G):G:=by
 refine k ?_ ?_ ?_ ?_ ?_ ?_ ?_ ?_ ?_ ?_ h
 all_goals first | (rw [cell_of_row _ _ _ _ _ (0,0) h];rfl) | simp [World.frozen?,h]
end
section
open Go.RowKit
theorem PI (w:World) (h:Nd) (o1:Option Addr) (l1 c1:Nat) (o2:Option Addr) (l2 c2:Nat) (t:TypeId) (W:World) (hq:ah (w.alloc (.cells (cells9 h o1 l1 c1 o2 l2 c2) t)) W):dL W w.heap.size 0 h o1 l1 c1 o2 l2 c2 :=
 (wz w h o1 l1 c1 o2 l2 c2 t).fr hq (fun h=>h)
end
section
open Go.RowKit Go.Shelf
def fV (w:World) (B:Nat) (a0 a1 a2 a3 a4 a5 a6 a7 a8:Value):World :=
 ((((((((w.setCell ⟨B,0,none⟩ a0).setCell ⟨B,1,none⟩ a1).setCell ⟨B,2,none⟩ a2).setCell ⟨B,3,none⟩ a3).setCell ⟨B,4,none⟩ a4).setCell ⟨B,5,none⟩ a5).setCell ⟨B,6,none⟩ a6).setCell ⟨B,7,none⟩ a7).setCell ⟨B,8,none⟩ a8
theorem iM (w:World) (B:Nat) (a0 a1 a2 a3 a4 a5 a6 a7 a8:Value):Fr (fun k=>k=B) w (fV w B a0 a1 a2 a3 a4 a5 a6 a7 a8) :=
 ((((((((Fr.setCell (fun k=>k=B) w ⟨B,0,none⟩ a0 rfl).trans (Fr.setCell (fun k=>k=B) _ ⟨B,1,none⟩ a1 rfl)).trans (Fr.setCell (fun k=>k=B) _ ⟨B,2,none⟩ a2 rfl)).trans (Fr.setCell (fun k=>k=B) _ ⟨B,3,none⟩ a3 rfl)).trans (Fr.setCell (fun k=>k=B) _ ⟨B,4,none⟩ a4 rfl)).trans (Fr.setCell (fun k=>k=B) _ ⟨B,5,none⟩ a5 rfl)).trans (Fr.setCell (fun k=>k=B) _ ⟨B,6,none⟩ a6 rfl)).trans (Fr.setCell (fun k=>k=B) _ ⟨B,7,none⟩ a7 rfl)).trans (Fr.setCell (fun k=>k=B) _ ⟨B,8,none⟩ a8 rfl)
theorem dO {w : World} {B : Nat} {a0 a1 a2 a3 a4 a5 a6 a7 a8 b0 b1 b2 b3 b4 b5 b6 b7 b8 : Value} {t : TypeId} (h : w.heap[B]? = some (.cells #[b0, b1, b2, b3, b4, b5, b6, b7, b8] t (0, 0))) :
    (fV w B a0 a1 a2 a3 a4 a5 a6 a7 a8).heap[B]?=some (.cells #[a0,a1,a2,a3,a4,a5,a6,a7,a8] t (0,0)):=by
 have s0:((w).setCell ⟨B,0,none⟩ a0).heap[B]?=some (.cells #[a0,b1,b2,b3,b4,b5,b6,b7,b8] t (0,0)):=aF h;have s1:((((w).setCell ⟨B,0,none⟩ a0)).setCell ⟨B,1,none⟩ a1).heap[B]?=some (.cells #[a0,a1,b2,b3,b4,b5,b6,b7,b8] t (0,0)):=aF s0;have s2:((((((w).setCell ⟨B,0,none⟩ a0)).setCell ⟨B,1,none⟩ a1)).setCell ⟨B,2,none⟩ a2).heap[B]?=some (.cells #[a0,a1,a2,b3,b4,b5,b6,b7,b8] t (0,0)):=aF s1;have s3:((((((((w).setCell ⟨B,0,none⟩ a0)).setCell ⟨B,1,none⟩ a1)).setCell ⟨B,2,none⟩ a2)).setCell ⟨B,3,none⟩ a3).heap[B]?=some (.cells #[a0,a1,a2,a3,b4,b5,b6,b7,b8] t (0,0)):=aF s2;have s4:((((((((((w).setCell ⟨B,0,none⟩ a0)).setCell ⟨B,1,none⟩ a1)).setCell ⟨B,2,none⟩ a2)).setCell ⟨B,3,none⟩ a3)).setCell ⟨B,4,none⟩ a4).heap[B]?=some (.cells #[a0,a1,a2,a3,a4,b5,b6,b7,b8] t (0,0)):=aF s3;have s5:((((((((((((w).setCell ⟨B,0,none⟩ a0)).setCell ⟨B,1,none⟩ a1)).setCell ⟨B,2,none⟩ a2)).setCell ⟨B,3,none⟩ a3)).setCell ⟨B,4,none⟩ a4)).setCell ⟨B,5,none⟩ a5).heap[B]?=some (.cells #[a0,a1,a2,a3,a4,a5,b6,b7,b8] t (0,0)):=aF s4;have s6:((((((((((((((w).setCell ⟨B,0,none⟩ a0)).setCell ⟨B,1,none⟩ a1)).setCell ⟨B,2,none⟩ a2)).setCell ⟨B,3,none⟩ a3)).setCell ⟨B,4,none⟩ a4)).setCell ⟨B,5,none⟩ a5)).setCell ⟨B,6,none⟩ a6).heap[B]?=some (.cells #[a0,a1,a2,a3,a4,a5,a6,b7,b8] t (0,0)):=aF s5;have s7:((((((((((((((((w).setCell ⟨B,0,none⟩ a0)).setCell ⟨B,1,none⟩ a1)).setCell ⟨B,2,none⟩ a2)).setCell ⟨B,3,none⟩ a3)).setCell ⟨B,4,none⟩ a4)).setCell ⟨B,5,none⟩ a5)).setCell ⟨B,6,none⟩ a6)).setCell ⟨B,7,none⟩ a7).heap[B]?=some (.cells #[a0,a1,a2,a3,a4,a5,a6,a7,b8] t (0,0)):=aF s6
 have s8:((((((((((((((((((w).setCell ⟨B,0,none⟩ a0)).setCell ⟨B,1,none⟩ a1)).setCell ⟨B,2,none⟩ a2)).setCell ⟨B,3,none⟩ a3)).setCell ⟨B,4,none⟩ a4)).setCell ⟨B,5,none⟩ a5)).setCell ⟨B,6,none⟩ a6)).setCell ⟨B,7,none⟩ a7)).setCell ⟨B,8,none⟩ a8).heap[B]?=some (.cells #[a0,a1,a2,a3,a4,a5,a6,a7,a8] t (0,0)):=aF s7;exact s8
def Tq (w:World) (B:Nat) (a3 a4 a5:Value):World:=((w.setCell ⟨B,3,none⟩ a3).setCell ⟨B,4,none⟩ a4).setCell ⟨B,5,none⟩ a5
theorem G7 (w:World) (B:Nat) (a3 a4 a5:Value):Fr (fun k=>k=B) w (Tq w B a3 a4 a5) :=
 ((Fr.setCell (fun k=>k=B) _ ⟨B,3,none⟩ a3 rfl).trans (Fr.setCell (fun k=>k=B) _ ⟨B,4,none⟩ a4 rfl)).trans (Fr.setCell (fun k=>k=B) _ ⟨B,5,none⟩ a5 rfl)
theorem LD {w : World} {B : Nat} {a3 a4 a5 b0 b1 b2 b3 b4 b5 b6 b7 b8 : Value} {t : TypeId} (h : w.heap[B]? = some (.cells #[b0, b1, b2, b3, b4, b5, b6, b7, b8] t (0, 0))) :
    (Tq w B a3 a4 a5).heap[B]?=some (.cells #[b0,b1,b2,a3,a4,a5,b6,b7,b8] t (0,0)) :=
 aF (i:=5) (u:=a5) (aF (i:=4) (u:=a4) (aF (i:=3) (u:=a3) h))
theorem aW {w : World} {B : Nat} {a0 a1 a2 a3 a4 a5 a6 a7 a8 : Value} {t : TypeId} (h : w.heap[B]? = some (.cells #[a0, a1, a2, a3, a4, a5, a6, a7, a8] t (0, 0))) :
    (w.cell? ⟨B,0,none⟩=some a0/\w.cell? ⟨B,1,none⟩=some a1/\w.cell? ⟨B,2,none⟩=some a2/\w.cell? ⟨B,3,none⟩=some a3/\w.cell? ⟨B,4,none⟩=some a4/\w.cell? ⟨B,5,none⟩=some a5/\w.cell? ⟨B,6,none⟩=some a6/\w.cell? ⟨B,7,none⟩=some a7/\w.cell? ⟨B,8,none⟩=some a8) /\
    w.frozen? ⟨B,0,none⟩=false/\w.frozen? ⟨B,1,none⟩=false/\w.frozen? ⟨B,2,none⟩=false/\w.frozen? ⟨B,3,none⟩=false/\w.frozen? ⟨B,4,none⟩=false/\w.frozen? ⟨B,5,none⟩=false/\w.frozen? ⟨B,6,none⟩=false/\w.frozen? ⟨B,7,none⟩=false/\w.frozen? ⟨B,8,none⟩=false:=by
 refine ⟨⟨?_,?_,?_,?_,?_,?_,?_,?_,?_⟩,?_,?_,?_,?_,?_,?_,?_,?_,?_⟩
 all_goals first | (rw [cell_of_row _ _ _ _ _ (0,0) h];rfl) | simp [World.frozen?,h]
abbrev zero9:Array Value:=#[.int .i64 0,.string ⟨#[]⟩,.int .i64 0,.int .i64 0,.int .i64 0,.slice none 0 0,.slice none 0 0,.int .i64 0,.int .i64 0]
def YH (h:Nd) (ps:To):Prop:=∀ (w:World) (R:Nat->Prop) (o1:Option Addr) (l1 c1:Nat) (o2:Option Addr) (l2 c2:Nat),aB R w o1 l1 h.tp->bC R w o2 l2 ps->h.tp.size<=1000000->allT (fun h=>h.tp.size<=1000000) ps->ps.size<=1000000 ->
 Calls Tryd.prog 58 #[bP h o1 l1 c1 o2 l2 c2] w fun e w'=>∃ p1 d1 p2 d2,e=.returned (bP h p1 l1 d1 p2 l2 d2)/\aB (fun b=>w.heap.size<=b) w' p1 l1 h.tp/\bC (fun b=>w.heap.size<=b) w' p2 l2 ps/\ah w w'
theorem PK (h:Nd) (ps:To):YH h ps:=by
 refine To.uY (T:=YH) ?_ h ps;intro h ps ih w R o1 l1 c1 o2 l2 c2 hs1 hs htz aa5 hsz;have HS:=hid hs;have IH:=hid ih;have HL:=hid hs.1;have HA:=hid aa5;have hmx:=hs.2.1;have hll:=To.length_le ps;rw [<-hs.1] at hll;unfold maxLen at hmx;obtain ⟨W0,hW0⟩:∃ W0,W0=(w.alloc (.cells (cells9 h o1 l1 c1 o2 l2 c2) 30)).alloc (.cells zero9 30):=⟨_,rfl⟩;have bD:Hid (ah w W0):=by rw [hW0];exact (ah.alloc _ _).trans (ah.alloc _ _)
 have HCT:=hid (xO h.tk h.tn h.tp W0 o1 l1 c1 (hs1.slc.stay bD.out) htz);have hz0:w.heap.size+2<=W0.heap.size:=by rw [hW0];simp
 have HB0:Hid (W0.heap[w.heap.size]?=some (.cells (cells9 h o1 l1 c1 o2 l2 c2) 30 (0,0))):=by
  show _=_;rw [hW0,Below.heap_alloc _ _ _ (by simp)];exact heap_alloc_new w _
 have HB1:Hid (W0.heap[w.heap.size+1]?=some (.cells zero9 30 (0,0))):=by
  show _=_;rw [hW0]
  have:=heap_alloc_new (w.alloc (.cells (cells9 h o1 l1 c1 o2 l2 c2) 30)) (.cells zero9 30);simpa using this
 clear hs ih aa5 hs1;unfold fG at HCT;unfold bP;go_enter Tryd.func58,Tryd.ntmps58;go_wp2_with fail;change Calls _ _ _ ((w.alloc (.cells (cells9 h o1 l1 c1 o2 l2 c2) 30)).alloc (.cells zero9 30)) _;rw [<-hW0];refine HCT.out.mono ?_;rintro e w1 ⟨q1,e1,rfl,hsl1,hq1⟩;have aa6:=hid hsl1;have hb0:=(hq1.block _ (by omega) (fun h=>h)).trans HB0.out;have hb1:=(hq1.block _ (by omega) (fun h=>h)).trans HB1.out;have fD:=hid hq1;have hz1:W0.heap.size<=w1.heap.size:=hq1.size;clear hW0 hq1 hsl1 HB0 HB1 HCT;have HB0:=hid hb0;have HB1:=hid hb1;obtain ⟨⟨x0,x1,x2,x3,x4,x5,x6,x7,x8⟩,y0,y1,y2,y3,y4,y5,y6,y7,y8⟩:=aW hb0;clear hb0 hb1;generalize hB:w.heap.size=B at *;have bY:=hid hB;clear hB;go_wp2_with fail;obtain ⟨W1,hW1⟩:∃ W1,W1=Tq w1 B (.int .i64 h.tk) (.int .i64 h.tn) (.slice q1 l1 e1):=⟨_,rfl⟩;change Code.wp _ _ _ _ (Tq w1 B (.int .i64 h.tk) (.int .i64 h.tn) (.slice q1 l1 e1));have hz2:W1.heap.size=w1.heap.size:=by rw [hW1];simp [Tq,World.setCell]
 have G8:Hid (ah w W1):=by
  rw [hW1];exact (bD.out.trans fD.out).trans' (G7 _ _ _ _ _) (fun i hi h=>by have:=bY.out;omega)
 have Xn:Hid (aB (fun b=>W0.heap.size<=b) W1 q1 l1 h.tp):=by
  rw [hW1];exact aa6.out.fr (G7 _ _ _ _ _) (fun k _ hk=>⟨hk,fun h=>by have hk':W0.heap.size<=k:=hk;omega⟩)
 replace HB0:Hid (W1.heap[B]?=some (.cells (cells9 h q1 l1 e1 o2 l2 c2) 30 (0,0))):=by
  rw [hW1];exact LD HB0.out
 replace HB1:Hid (W1.heap[B+1]?=some (.cells zero9 30 (0,0))):=by
  rw [hW1];exact ((G7 w1 B _ _ _).block _ (by omega) (fun h=>by omega)).trans HB1.out
 rw [<-hW1];clear hW1 x0 x1 x2 x3 x4 x5 x6 x7 x8 y0 y1 y2 y3 y4 y5 y6 y7 y8 aa6 fD bD;go_loopw [3,13] (fun v t wr=>∃ (i:Nat) (f:To) (xs:List Value) (vo:Option Addr) (vc:Nat),t=.int .i64 i/\i<=l2/\v=.slice vo i vc/\f.length=i/\f.app (ps.drop i)=ps/\kM wr W1.heap.size (.slice vo i vc) f xs/\ah W1 wr) (fun _ t _=>l2-(intOf t).toNat)
 case atStart=>exact ⟨0,.nil,[],none,0,rfl,Nat.zero_le _,rfl,rfl,by rw [To.drop_zero];rfl,kM.nil _ _,ah.refl _⟩
 case round =>
  obtain ⟨i,f,xs,vo,vc,rfl,hi,rfl,hfl,hap,hrow,hq⟩:=hrel;have HF:=hid hfl;have Tt:=hid hap;have HR:=hid hrow;have HQ:=hid hq;clear hfl hap hrow hq
  by_cases hlt:i < l2
  ·have hlt':(i:Int) < l2:=by omega
   obtain ⟨b,off,hd,qs,u1,v1,t1,u2,v2,t2,rfl,hdr,hg,hRb,⟨f0,f1,f2,f3,f4,f5,f6,f7,f8⟩,hsl,hts⟩:=(HS.out.stay (G8.out.trans HQ.out)).nth hlt;have Jf:=To.dG ps i hd qs hg;have hna:=BX ps i hd qs HA.out hg;obtain ⟨w2,hw2⟩:∃ w2,w2=wr.alloc (.cells (cells9 hd u1 v1 t1 u2 v2 t2) 30):=⟨_,rfl⟩;have Xo:ah wr w2:=by rw [hw2];exact ah.alloc _ _
   have HC:=hid (IH.out i hd qs hg w2 R u1 v1 t1 u2 v2 t2 (hsl.stay Xo) (hts.stay Xo) hna.1 hna.2 (by omega));have Zc:=hid Xo;have HD:Hid ((f.app (.cons hd qs .nil)).app (ps.drop (i+1))=ps):=by
    show _=_
    conv=>rhs;rw [<-Tt.out,hdr]
    rw [To.mG];rfl
   unfold bP at HC;clear hdr hg hsl hts Jf hRb hna Xo;go_wp2_with fail;change Calls _ _ _ (wr.alloc (.cells (cells9 hd u1 v1 t1 u2 v2 t2) 30)) _;rw [<-hw2];refine HC.out.mono ?_;rintro e w3 ⟨n1,m1,n2,m2,rfl,hk1,hk2,hq3⟩;have KQ:=hid hk1;have WA:=hid hk2;have qI:=hid (Zc.out.trans hq3);have HR1:=hid (HR.out.stay qI.out);clear hk1 hk2 hq3 hw2;go_wp2_with (at_builtin;go_must (refine aX w3 rfl (.tmp 17) (.tmp 20) 26 rfl 30 _ 9 112 sZ (.slice vo i vc) i xs rfl (HF.out ▸ HR1.out.own) (cells9 hd n1 v1 m1 n2 v2 m2) rfl rfl ?c1 ?c2 ?c3 ?_))
   case c1=>simp [Value.oneCell']
   case c2=>unfold maxLen;omega
   case c3=>omega
   intro g2 c' w4 ho hf hg2;have hlow:W1.heap.size<=w3.heap.size:=Nat.le_trans HQ.out.size qI.out.size;have hown:∀ kk,(Value.slice vo i vc).ownBlock=some kk->kk < wr.heap.size:=fun kk h=>(HR.out.own.lt kk h).2
   have adO:wr.heap.size<=w2.heap.size:=Zc.out.size;have hk:∀ kk,kk < w3.heap.size->w2.heap.size<=kk->((W1.heap.size<=kk/\(Value.slice vo i vc).ownBlock≠some kk)/\¬ False):=by
    intro kk _ hkk;refine ⟨⟨by have:=HQ.out.size;omega,fun h=>?_⟩,fun h=>h⟩;have:=hown kk h;omega
   have HR2:Hid (kM w4 W1.heap.size (.slice (some ⟨g2,0,none⟩) (i+1) c') (f.app (.cons hd qs .nil)) (xs++(cells9 hd n1 v1 m1 n2 v2 m2).toList)):=by
    show kM _ _ _ _ _
    have hf':=HF.out;subst hf';exact kM.snoc HR1.out (KQ.out.fr (Fr.refl (fun _=>False) _) hk) (WA.out.fr (Fr.refl (fun _=>False) _) hk) ho hf hg2 hlow
   have fC:Hid (ah W1 w4):=by
    show ah _ _
    exact Fr.trans' (HQ.out.trans qI.out) hf (fun kk hkk h=>absurd (HR.out.low kk h) (by omega))
   have HL2:Hid ((f.app (.cons hd qs .nil)).length=i+1):=by
    show _=_
    rw [To.bJ,HF.out];rfl
   clear ho hf hg2 hown hk;go_wp2_with fail;go_roundw
   case rel=>exact ⟨i+1,_,_,some ⟨g2,0,none⟩,c',by go_num,by omega,rfl,HL2.out,HD.out,HR2.out,fC.out⟩
   case measure=>simp [intOf];omega
  ·have hlt':¬ (i:Int) < l2:=by omega
   have hb1:=(HQ.out.block _ (by omega) (fun h=>h)).trans HB1.out;have hb0:=(HQ.out.block _ (by omega) (fun h=>h)).trans HB0.out;have WY:=aF (i:=6) (u:=.slice vo i vc) hb0;have hil:i=l2:=by omega
   subst hil;obtain ⟨⟨x0,x1,x2,x3,x4,x5,x6,x7,x8⟩,y0,y1,y2,y3,y4,y5,y6,y7,y8⟩:=aW hb0;obtain ⟨⟨z0,z1,z2,z3,z4,z5,z6,z7,z8⟩,t0,t1,t2,t3,t4,t5,t6,t7,t8⟩:=aW hb1;have HB0:=hid hb0;have HB1:=hid hb1;clear hb0 hb1;go_wp2_with fail;have hb1':(wr.setCell ⟨B,6,none⟩ (.slice vo i vc)).heap[B+1]?=some (.cells zero9 30 (0,0)):=by
    rw [Below.heap_setCell _ _ _ _ (by show B+1≠B;omega)];exact HB1.out
   have ou:Fr (fun k=>k=B∨k=B+1) wr (fV (wr.setCell ⟨B,6,none⟩ (.slice vo i vc)) (B+1) (.int .i64 h.k) (.string h.nm) (.int .i64 h.n) (.int .i64 h.tk) (.int .i64 h.tn) (.slice q1 l1 e1) (.slice vo i vc) (.int .i64 h.fr) (.int .i64 h.en)) :=
    (Fr.setCell _ _ _ _ (.inl rfl)).trans ((iM _ _ _ _ _ _ _ _ _ _ _).mono (fun k _ hk=>.inr hk))
   have hbf:=dO (a0:=.int .i64 h.k) (a1:=.string h.nm) (a2:=.int .i64 h.n) (a3:=.int .i64 h.tk) (a4:=.int .i64 h.tn) (a5:=.slice q1 l1 e1) (a6:=.slice vo i vc) (a7:=.int .i64 h.fr) (a8:=.int .i64 h.en) hb1';change bodyPost _ _ _ _ _ (fV (wr.setCell ⟨B,6,none⟩ (.slice vo i vc)) (B+1) (.int .i64 h.k) (.string h.nm) (.int .i64 h.n) (.int .i64 h.tk) (.int .i64 h.tn) (.slice q1 l1 e1) (.slice vo i vc) (.int .i64 h.fr) (.int .i64 h.en));clear x0 x1 x2 x3 x4 x5 x6 x7 x8 y0 y1 y2 y3 y4 y5 y6 y7 y8 z0 z1 z2 z3 z4 z5 z6 z7 z8 t0 t1 t2 t3 t4 t5 t6 t7 t8 WY hb1';generalize (fV (wr.setCell ⟨B,6,none⟩ (.slice vo i vc)) (B+1) (.int .i64 h.k) (.string h.nm) (.int .i64 h.n) (.int .i64 h.tk) (.int .i64 h.tn) (.slice q1 l1 e1) (.slice vo i vc) (.int .i64 h.fr) (.int .i64 h.en))=wf at *;obtain ⟨⟨x0,x1,x2,x3,x4,x5,x6,x7,x8⟩,_⟩:=aW hbf;have bF:Hid (aB (fun b=>w.heap.size<=b) wf q1 l1 h.tp/\bC (fun b=>w.heap.size<=b) wf vo i ps/\ah w wf):=by
    have hz:=bY.out;have hap:=Tt.out;rw [To.drop_end ps i (by have:=HL.out;omega),To.qZ] at hap;have hqs:=HQ.out.size;refine ⟨(Xn.out.stay HQ.out).fr ou (fun k _ hk=>?_),?_,?_⟩
    ·have hk':W0.heap.size<=k:=hk;exact ⟨by omega,by omega⟩
    ·rw [<-hap];refine (HR.out.slc HF.out.symm (by unfold maxLen;omega)).fr ou (fun k _ hk=>?_);have hk':W1.heap.size<=k:=hk;exact ⟨by omega,by omega⟩
    ·exact (G8.out.trans HQ.out).trans' ou (fun i hi h=>by omega)
   refine bodyPost_ret (by simp [results,Tryd.results58,go_sem,x0,x1,x2,x3,x4,x5,x6,x7,x8];rfl) rfl ?_;exact ⟨q1,e1,vo,⟨vc,rfl⟩,bF.out⟩
end
end Go.Proofs.YtcninopmelmajaaDoor
