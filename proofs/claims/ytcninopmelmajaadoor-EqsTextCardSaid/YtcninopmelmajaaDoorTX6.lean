/-
  Texts laid together (CnPlain, ScPlain, CnUsPlain, Law, St1, Step, Quiet, App, LexKw, LexNext, LexTok, LexWords, LexSame, LexName): laws and walks, with their conditions.
-/
import Derived.ProofKit
import Derived.OpenShut
import Derived.Deep.AppendLies
import Derived.Lib.SmallJoins
import Derived.Laws.StructEq
import Derived.StillTailTactics
import Derived.BigQuiet
import Derived.Test.YtcninopmelmajaaDoorRows
import Derived.Test.YtcninopmelmajaaDoorShelfLex
import Derived.Test.YtcninopmelmajaaDoorTX3
set_option maxHeartbeats 8000000
set_option maxRecDepth 1000000
namespace Go.Proofs.YtcninopmelmajaaDoor
open Go.Lib (hid)
section
namespace Cn
abbrev Env:=List (ByteArray × Int)
end Cn
end
section
namespace Sc
def ixE:List ByteArray->ByteArray->Nat->Int
 | [],_,_=>-1
 | a::r,s,k=>if a=s then (k:Int) else ixE r s (k+1)
def ix (e:List ByteArray) (s:ByteArray):Int:=ixE e s 0
theorem yA:∀ (e:List ByteArray) (s:ByteArray) (k:Nat),(ixE e s k=-1/\s ∉ e)∨∃ j,ixE e s k=((k+j:Nat):Int)/\e[j]?=some s/\s ∉ e.take j
 | [],s,k=>.inl ⟨rfl,by simp⟩
 | a::r,s,k=>by
  unfold ixE
  by_cases h:a=s
  ·rw [if_pos h];exact .inr ⟨0,by simp,by simp [h],by simp⟩
  ·rw [if_neg h];rcases yA r s (k+1) with ⟨h1,h2⟩ | ⟨j,h1,h2,h3⟩
   ·refine .inl ⟨h1,?_⟩;simp only [List.mem_cons,not_or];exact ⟨fun e=>h e.symm,h2⟩
   ·refine .inr ⟨j+1,by rw [h1];congr 1;omega,by simpa using h2,?_⟩;simp only [List.take_succ_cons,List.mem_cons,not_or];exact ⟨fun e=>h e.symm,h3⟩
theorem NJ {e:List ByteArray} {s:ByteArray} {i:Nat} (h:e[i]?=some s) (hn:s ∉ e.take i):ix e s=i:=by
 unfold ix;rcases yA e s 0 with ⟨_,h2⟩ | ⟨j,h1,h2,h3⟩
 ·exact absurd (List.mem_of_getElem? h) h2
 ·rcases Nat.lt_trichotomy i j with hl | he | hl
  ·exact absurd (List.mem_of_getElem? (by rw [List.getElem?_take,if_pos hl];exact h)) h3
  ·subst he;simpa using h1
  ·exact absurd (List.mem_of_getElem? (by rw [List.getElem?_take,if_pos hl];exact h2)) hn
theorem Tf {e:List ByteArray} {s:ByteArray} (h:s ∉ e):ix e s=-1:=by
 unfold ix;rcases yA e s 0 with ⟨h1,_⟩ | ⟨j,_,h2,_⟩
 ·exact h1
 ·exact absurd (List.mem_of_getElem? h2) h
def mF (k:Int) (i:Nat):Bool:=k == 4 || k == 7 || (k == 6 && i == 1)
def bW (k:Int) (nm:ByteArray) (i:Nat) (e:List ByteArray):List ByteArray:=if mF k i then nm::e else e
def YS (k:Int):Bool:=k == 4 || k == 6 || k == 7
section
variable {σ:Type} (mM:σ->Nd->List ByteArray->σ) (out:Nd->List ByteArray->Nd)
def wk:Int->ByteArray->Nat->σ->List ByteArray->To->σ × To
 | _,_,_,s,_,.nil=>(s,.nil)
 | bk,nm,i,s,e,.cons h ps r =>
  let q:σ × Nd × To:=if h.k=1 then (mM s h (bW bk nm i e),out h (bW bk nm i e),ps) else
   ((wk h.k h.nm 0 s (bW bk nm i e) ps).1,h,(wk h.k h.nm 0 s (bW bk nm i e) ps).2)
  ((wk bk nm (i+1) q.1 e r).1,.cons q.2.1 q.2.2 (wk bk nm (i+1) q.1 e r).2)
def AP (s:σ) (e:List ByteArray) (h:Nd) (ps:To):σ × Nd × To :=
 if h.k=1 then (mM s h e,out h e,ps) else ((wk mM out h.k h.nm 0 s e ps).1,h,(wk mM out h.k h.nm 0 s e ps).2)
theorem N7 (bk : Int) (nm : ByteArray) (i : Nat) (s : σ) (e : List ByteArray) (h : Nd) (ps r : To) : wk mM out bk nm i s e (.cons h ps r) =
    ((wk mM out bk nm (i+1) (AP mM out s (bW bk nm i e) h ps).1 e r).1,.cons (AP mM out s (bW bk nm i e) h ps).2.1 (AP mM out s (bW bk nm i e) h ps).2.2 (wk mM out bk nm (i+1) (AP mM out s (bW bk nm i e) h ps).1 e r).2):=rfl
end
def fr (e:List ByteArray):Nd->To->List (Nd × To):=fun h ps=>(AP (fun s x e=>if ix e x.nm < 0 then s++[(x,To.nil)] else s) (fun x _=>x) [] e h ps).1
def Qi (x:Nd) (e:List ByteArray):Nd:=if 0<=ix e x.nm then { x with n:=ix e x.nm } else x
end Sc
end
section
namespace Cn
def bump (out:List Int) (n:Nat):List Int:=out.modify n (·+1)
end Cn
end
section
open Go.ChangeShapes Go.WideShapes Go.ChangeAt Go.RowKit
theorem own:ownKnob Tryd.prog.godebug=none:=by kernel_rfl
def zU (P:Program) (ts:List TypeId):Bool:=ts.all fun t=>P.readableRec t && decide (t < P.types.size)
theorem vY {H : Type} {enc : TypeId × Value -> H} {P : Program} (hl : laidOutB P = true) {W W' : World} (hb : Below W.heap.size W W') :
    ∀ (ts:List TypeId) (vs:List Value) (ds:List (DataW H)) (ps:List MemPlace),zU P ts=true->DataW.TrodAll enc P W 0 (fun _=>true) true ts vs ds ps->(∀ x∈ps,x.block < W.heap.size) ->
     DataW.TrodAll enc P W' 0 (fun b=>decide (b < W.heap.size)) true ts vs ds ps
 | [],vs,ds,ps,_,h,_=>by
  obtain ⟨rfl,rfl,rfl⟩:=trodAll_nil h;exact trodAll_mk0
 | t::ts,vs,ds,ps,hr,h,hlt=>by
  obtain ⟨v,vs',d,ds',p,q,rfl,rfl,rfl,h1,h2⟩:=trodAll_cons h;simp only [zU,List.all_cons,Bool.and_eq_true,decide_eq_true_eq] at hr;exact trodAll_cons_mk (Below.trod hl hr.1.1 hr.1.2 h1 hb (fun x hx=>hlt x (List.mem_append_left _ hx)))
   (vY hl hb ts vs' ds' q hr.2 h2 (fun x hx=>hlt x (List.mem_append_right _ hx)))
theorem V8 {H : Type} {enc : TypeId × Value -> H} {f : Func} {s : ChangeSpec} {W W' : World} {args : Array Value} {ds gs : List (DataW H)} {before : List MemPlace}
    (hW:DataW.Whole enc Tryd.prog f.params.toList s.vars false W args.toList ds gs before) (hv:s.vars=[]) (hs:(s.fn H (ds++gs)).results=[.lit (.bool true)]) (hs2:(s.fn H (ds++gs)).args=ds) (hs3:(s.fn H (ds++gs)).vars=[])
    (hres:f.resultTypes=#[4]) (hread:zU Tryd.prog f.params.toList=true) (hb:Below W.heap.size W W') :
    s.post enc Tryd.prog f false true false false W args (.bool true) W':=by
 have hlt:=hW.lt;have hW':=hW;obtain ⟨p,q,hA,hV,rfl,hfz,hnd⟩:=hW;refine ⟨ds,gs,_,[],p,[],hW',?_,?_,?_,hb.frame _,fun h=>by cases h⟩
 ·rw [hs,hres];exact trodAll_cons_mk (shut_bool Tryd.underlying4 _) trodAll_mk0
 ·rw [hs2];exact vY (by kernel_rfl) hb _ _ _ _ hread hA (fun x hx=>by have:=hlt x (List.mem_append_left _ hx);simpa using this)
 ·rw [hs3,hv];exact rfl
end
section
namespace St
open Go.RowKit
theorem AQ {P : Program} (W : World) {ops : Array Oper} {o : Oper} {a : Act} {K : Act -> World -> Prop} {Q : Exit -> Act -> World -> Prop} {E : Prop}
    (hg:o.guard=none) (s x:Operand) (t:TypeId) (hop:o.op=Op.call { callee:=Callee.builtin Builtin.append,args:=#[s,x],argTypes:=#[t,t] })
    (e:TypeId) (z:Value) (size bytes:Nat) (he:Elem P t e z size bytes)
    (v:Value) (n:Nat) (xs:List Value) (hs:a.eval s=v) (hown:W.ownsRow 0 e size v n xs)
    (news:Array Value) (hx:a.eval x=.slice (some ⟨W.heap.size,0,none⟩) 1 1) (hn:news.size=size) (h1c:∀ u∈news.toList,u.oneCell'=true)
    (b1:n+1<=maxLen) (b2:(n+1)*bytes<=140737488355328)
    (hK:∀ g c w',w'.ownsRow 0 e size (.slice (some ⟨g,0,none⟩) (n+1) c) (n+1) (xs++news.toList)->Fr (fun k=>v.ownBlock=some k) W w'->(v.ownBlock=some g∨W.heap.size<=g)->K (a.put o.dst (.slice (some ⟨g,0,none⟩) (n+1) c)) w') :
    if Region.wanted o (yielded ops a.tmps)=true then Oper.wp P o a (W.alloc (.cells news e)) K Q else E:=by
 obtain ⟨i0,hi,hz0,hz1,hz2⟩:=info_parts he.info;refine step_append_lies (w:=W.alloc (.cells news e)) hg s x t hop 0 e i0 z size bytes he.under hi hz0 hz1 hz2 he.cells he.pos v n xs hs (hown.alloc _) ⟨W.heap.size,0,none⟩ 1 1 news.toList hx (by simpa using hn) ?_ h1c (by omega) b1 b2 (Nat.zero_le _) _ rfl ?_
 ·intro j u hu;rw [Addr.add_lit,cell_of_row (W.alloc (.cells news e)) W.heap.size (0+j) news e (0,0) (heap_alloc_new W _)];simpa using hu
 ·intro g cap w' ho hgr hg' _;refine hK g cap w' ho ((Fr.alloc _ W _).trans (Fr.grown hgr (fun k hk=>hk))) ?_;rcases hg' with h | h
  ·exact .inl h
  ·exact .inr (by simp at h;omega)
end St
end
section
open Go.RowKit
def Qn (K:Act->World->Prop) (e:Exit) (a:Act) (w:World):Prop:=match e with
 | .normal=>K a w
 | _=>False
theorem V9 (K:Act->World->Prop):¬ LetsOut (Qn K):=fun ⟨_,_,h⟩=>h
theorem Wh {P:Program} {o:Oper} {a:Act} {w:World} {K:Act->World->Prop} {Q:Exit->Act->World->Prop} {next:Act->World->Prop} (h:o.wp P a w next (Qn K)):o.wp P a w next Q:=by
 unfold Oper.wp at *;generalize (execOp a.eval o).run P w=r at *;cases r with
 | ok n w' =>
  cases n<;>simp only [Oper.upon] at h ⊢ <;>
   first
    | exact h
    | exact Calls.mono h (fun e w'' he=>by cases e<;>first | exact he | exact he.elim | exact (V9 K he).elim)
    | exact Rows.mono h (fun _ _ he=>he)
 | halt x w'=>cases x<;>simp only [Oper.upon] at h ⊢<;>exact h.elim
theorem GU {P : Program} {ops : Array Oper} {o : Oper} {a : Act} {w : World} {K : Act -> World -> Prop} {Q : Exit -> Act -> World -> Prop} {E : Prop}
    (hw:Region.wanted o (yielded ops a.tmps)=true) (h:wpList P ops (Qn K) [o] a w):if Region.wanted o (yielded ops a.tmps)=true then Oper.wp P o a w K Q else E:=by
 rw [if_pos hw];unfold wpList at h;rw [if_pos hw] at h;rcases h with h | ⟨_,h⟩
 ·exact Wh h
 ·exact (V9 K h).elim
theorem of_nil {P:Program} {ops:Array Oper} {a:Act} {w:World} {K:Act->World->Prop} (h:K a w):wpList P ops (Qn K) [] a w:=h
end
section
open Go.RowKit
def ah (w w':World):Prop:=Fr (fun _=>False) w w'
theorem ah.refl (w:World):ah w w:=Fr.refl _ w
theorem ah.trans {a b c:World} (h:ah a b) (k:ah b c):ah a c:=Fr.trans h k
theorem ah.alloc (w:World) (o:Obj):ah w (w.alloc o):=Fr.alloc _ w o
theorem ah.below {w w':World} (h:ah w w'):Below w.heap.size w w':=Fr.below h (Nat.le_refl _) (fun _ h=>h.elim)
theorem ah.drewN (w:World) (n:Nat):ah w (w.drewN n):=Fr.drewN _ w n
theorem ah.drew (w:World):ah w w.drew:=Fr.drew _ w
theorem jq {a b:World} {o:Obj} (h:ah a b):ah a (b.alloc o):=h.trans (ah.alloc _ _)
theorem jr {a b:World} (h:ah a b):ah a b.drew:=h.trans (ah.drew _)
theorem ah.at {w w':World} (h:ah w w') {b off:Nat} {v:Value} (hc:w.cell? ⟨b,off,none⟩=some v):w'.cell? ⟨b,off,none⟩=some v :=
 (h.aY (World.block_lt_of_cell? w _ hc) (fun h=>h)).trans hc
end
section
open Go.RowKit
section
variable {P:Program}
theorem Ea (w : World) (t ty e : TypeId) (z : Value) (size bytes : Nat) (he : Elem P t e z size bytes) (v : Value) (n : Nat) (xs : List Value) (hown : w.ownsRow 0 e size v n xs)
    (o:Option Addr) (m c:Nat) (news:List Value) (hl:news.length=m*size) (hnews:∀ j u,news[j]?=some u->∃ a,o=some a/\w.cell? (a.add j)=some u) (h1:∀ u∈news,u.oneCell'=true) (b1:n+m<=maxLen) (b2:(n+m)*bytes<=140737488355328) :
    ∃ o' c' w',(Builtin.append_ #[t,t] ty #[v,.slice o m c]).run P w=.ok (.slice o' (n+m) c') w'/\w'.ownsRow 0 e size (.slice o' (n+m) c') (n+m) (xs++news)/\Fr (fun k=>v.ownBlock=some k) w w'/\((Value.slice o' (n+m) c').ownBlock=v.ownBlock∨(Value.slice o' (n+m) c').ownBlock=some w.heap.size)/\((Value.slice o' (n+m) c')=.slice none 0 0↔v=.slice none 0 0/\m=0):=by
 obtain ⟨i0,hi,hz0,hz1,hz2⟩:=info_parts he.info;have form:∀ {w':World} {v':Value} {k:Nat} {ys:List Value},w'.ownsRow 0 e size v' k ys->∃ o' c',v'=.slice o' k c':=by
  intro w' v' k ys h;rcases h.2 with ⟨rfl,rfl⟩ | ⟨g,cap,cur,rfl,_⟩
  ·exact ⟨none,0,rfl⟩
  ·exact ⟨some ⟨g,0,none⟩,cap,rfl⟩
 by_cases hm:m=0
 ·subst hm;have hn:news=[]:=List.eq_nil_of_length_eq_zero (by simpa using hl);subst hn;obtain ⟨o',c',hv⟩:=form hown;refine ⟨o',c',w,?_,by rw [Nat.add_zero,<-hv,List.append_nil];exact hown,Fr.refl _ _,.inl (by rw [Nat.add_zero,<-hv]),by rw [Nat.add_zero,<-hv];simp⟩;rw [Nat.add_zero];rcases hown.2 with ⟨rfl,h0⟩ | ⟨g,cap,cur,hvg,_,hg,hc,_⟩
  ·injection hv with e1 e2 e3
   subst e1 e2 e3;cases o<;>simp [Builtin.append_,run_underlying he.under,sizeOf,typeInfo,hi,Builtin.lenOf,Builtin.firstCells,loadCells,loadCellsFrom]
  ·rw [hvg] at hv ⊢;injection hv with e1 e2 e3
   subst e1 e3;cases o<;>simp [Builtin.append_,run_underlying he.under,sizeOf,typeInfo,hi,Builtin.lenOf,Builtin.firstCells,loadCells,loadCellsFrom,storeCells,hc]
 ·have hne:0 < news.length:=by rw [hl];exact Nat.mul_pos (by omega) he.pos
  obtain ⟨a,ha,_⟩:=hnews 0 news[0] (List.getElem?_eq_getElem hne);subst ha;obtain ⟨v',w',hr,h2,h3,h4,h5⟩:=run_append_own_at (P:=P) w 0 t ty e i0 z size bytes he.under hi hz0 hz1 hz2 he.cells he.pos v n xs hown a m c news hl (fun j u hu=>by obtain ⟨a',e',hc⟩:=hnews j u hu;cases e';exact hc) h1 b1 b2 (Nat.zero_le _);obtain ⟨o',c',rfl⟩:=form h2;exact ⟨o',c',w',hr,h2,Fr.grown h3 (fun k hk=>hk),h5,h4⟩
theorem vZ {o : Oper} {a : Act} {K : Act -> World -> Prop} {Q : Exit -> Act -> World -> Prop} (W : World) (s x : Operand) (t : TypeId)
    (ho:o.op=.call { callee:=.builtin .append,args:=#[s,x],argTypes:=#[t,t] })
    (e:TypeId) (z:Value) (size bytes:Nat) (he:Elem P t e z size bytes) (v:Value) (n:Nat) (xs:List Value) (hs:a.eval s=v) (hown:W.ownsRow 0 e size v n xs)
    (oa:Option Addr) (m c:Nat) (news:List Value) (hx:a.eval x=.slice oa m c) (hl:news.length=m*size) (hnews:∀ j u,news[j]?=some u->∃ a,oa=some a/\W.cell? (a.add j)=some u) (h1:∀ u∈news,u.oneCell'=true) (b1:n+m<=maxLen) (b2:(n+m)*bytes<=140737488355328)
    (hK:∀ o' c' w',w'.ownsRow 0 e size (.slice o' (n+m) c') (n+m) (xs++news)->Fr (fun k=>v.ownBlock=some k) W w'->((Value.slice o' (n+m) c').ownBlock=v.ownBlock∨(Value.slice o' (n+m) c').ownBlock=some W.heap.size)->((Value.slice o' (n+m) c')=.slice none 0 0↔v=.slice none 0 0/\m=0)->K (a.put o.dst (.slice o' (n+m) c')) w') :
    o.wp P a W K Q:=by
 obtain ⟨o',c',w',hr,h2,h3,h4,h5⟩:=Ea (P:=P) W t o.type e z size bytes he v n xs hown oa m c news hl hnews h1 b1 b2;unfold Oper.wp execOp;simp only [ho,resolve,invoke,builtin,Sem.run_bind,Sem.run_pure,Result.andThen_ok,List.map_toArray,List.map_cons,List.map_nil,hs,hx,hr];exact hK o' c' w' h2 h3 h4 h5
theorem lK {ops : Array Oper} {rest : List Oper} {o : Oper} {a : Act} {Q : Exit -> Act -> World -> Prop} (W : World) (hg : o.guard = none) (s x : Operand) (t : TypeId)
    (ho:o.op=.call { callee:=.builtin .append,args:=#[s,x],argTypes:=#[t,t] })
    (e:TypeId) (z:Value) (size bytes:Nat) (he:Elem P t e z size bytes) (v:Value) (n:Nat) (xs:List Value) (hs:a.eval s=v) (hown:W.ownsRow 0 e size v n xs)
    (oa:Option Addr) (m c:Nat) (news:List Value) (hx:a.eval x=.slice oa m c) (hl:news.length=m*size) (hnews:∀ j u,news[j]?=some u->∃ a,oa=some a/\W.cell? (a.add j)=some u) (h1:∀ u∈news,u.oneCell'=true) (b1:n+m<=maxLen) (b2:(n+m)*bytes<=140737488355328)
    (hK:∀ o' c' w',w'.ownsRow 0 e size (.slice o' (n+m) c') (n+m) (xs++news)->Fr (fun k=>v.ownBlock=some k) W w'->((Value.slice o' (n+m) c').ownBlock=v.ownBlock∨(Value.slice o' (n+m) c').ownBlock=some W.heap.size)->((Value.slice o' (n+m) c')=.slice none 0 0↔v=.slice none 0 0/\m=0)->wpList P ops Q rest (a.put o.dst (.slice o' (n+m) c')) w') :
    wpList P ops Q (o::rest) a W :=
 wpList_plain hg fun _ hK'=>vZ W s x t ho e z size bytes he v n xs hs hown oa m c news hx hl hnews h1 b1 b2 fun o' c' w' h2 h3 h4 h5=>hK' _ _ (hK o' c' w' h2 h3 h4 h5)
theorem aI {ops : Array Oper} {o : Oper} {a : Act} {K : Act -> World -> Prop} {Q : Exit -> Act -> World -> Prop} {E : Prop} (W : World) (hg : o.guard = none) (s x : Operand) (t : TypeId)
    (ho:o.op=.call { callee:=.builtin .append,args:=#[s,x],argTypes:=#[t,t] })
    (e:TypeId) (z:Value) (size bytes:Nat) (he:Elem P t e z size bytes) (v:Value) (n:Nat) (xs:List Value) (hs:a.eval s=v) (hown:W.ownsRow 0 e size v n xs)
    (oa:Option Addr) (m c:Nat) (news:List Value) (hx:a.eval x=.slice oa m c) (hl:news.length=m*size) (hnews:∀ j u,news[j]?=some u->∃ a,oa=some a/\W.cell? (a.add j)=some u) (h1:∀ u∈news,u.oneCell'=true) (b1:n+m<=maxLen) (b2:(n+m)*bytes<=140737488355328)
    (hK:∀ o' c' w',w'.ownsRow 0 e size (.slice o' (n+m) c') (n+m) (xs++news)->Fr (fun k=>v.ownBlock=some k) W w'->((Value.slice o' (n+m) c').ownBlock=v.ownBlock∨(Value.slice o' (n+m) c').ownBlock=some W.heap.size)->((Value.slice o' (n+m) c')=.slice none 0 0↔v=.slice none 0 0/\m=0)->K (a.put o.dst (.slice o' (n+m) c')) w') :
    if Region.wanted o (yielded ops a.tmps)=true then Oper.wp P o a W K Q else E:=by
 rw [if_pos (by unfold Region.wanted;rw [hg])];exact vZ W s x t ho e z size bytes he v n xs hs hown oa m c news hx hl hnews h1 b1 b2 hK
end
end
section
namespace Lx
open Go.RowKit
abbrev kD (w:World):Prop:=Lib.TabIs Tryd.prog w "strings.asciiSpace" .u8 Lib.asciiSpaceTab
theorem kD.stay {w w':World} (h:kD w) (hq:ah w w'):kD w':=by
 have hg:Tryd.prog.globalNamed "strings.asciiSpace"=some 0:=by kernel_rfl
 exact Joins.tab_stays hg h hq.below (Nat.le_refl _)
def dn (l:List UInt8):ByteArray:=⟨l.toArray⟩
theorem uD (l:List UInt8):(dn l).data.toList=l:=rfl
theorem IG (s:ByteArray):dn s.data.toList=s:=by cases s;rfl
theorem aaQ {a b:ByteArray} (h:a.data.toList=b.data.toList):a=b:=by rw [<-IG a,<-IG b,h]
def uX:ByteArray:=⟨#[32,102,117,110,32,108,101,116,32,114,101,99,32,105,110,32,105,102,32,116,104,101,110,32,101,108,115,101,32,116,114,117,101,32,102,97,108,115,101,32,105,110,116,32,98,111,111,108,32]⟩
theorem II:Lib.fields uX.data.toList=Gz:=by decide +kernel
theorem KI:∀ (j:Nat) (b:UInt8),uX.data.toList[j]?=some b->b.toNat < 128:=by
 have h:∀ b∈uX.data.toList,b.toNat < 128:=by decide +kernel
 intro j b hb;exact h b (List.mem_of_getElem? hb)
theorem KJ (s:ByteArray):Lib.containsS (Gz.map dn) s=OQ s.data.toList:=by
 rw [Bool.eq_iff_iff,Lib.containsS_iff];unfold OQ;rw [List.contains_iff_mem,List.mem_map];constructor
 ·rintro ⟨l,hl,rfl⟩;exact hl
 ·intro h;exact ⟨_,h,IG s⟩
theorem Gv (w:World) (j:Nat) (hj:j < (Gz.map dn).length):(w.alloc (.cells (Gz.map fun l=>Value.string ⟨l.toArray⟩).toArray 9)).cell? ⟨w.heap.size,0+j,none⟩=some (.string ((Gz.map dn).getD j ByteArray.empty)):=by
 rw [cell_of_row _ _ _ _ _ (0,0) (heap_alloc_new w _)];have hj':j < Gz.length:=by simpa using hj
 simp only [Nat.zero_add,List.getElem?_toArray,List.getElem?_map,List.getD_eq_getElem?_getD];rw [List.getElem?_eq_getElem hj'];rfl
theorem KL (s:ByteArray) (w:World) (ht:kD w):Calls Tryd.prog 84 #[.string s] w fun e w'=>e=.returned (.bool (OQ s.data.toList))/\ah w w':=by
 have hF:=Tryd.strings_Fields uX w (by decide) KI ht;rw [II] at hF;have hC:=Tryd.slices_Contains_string w.heap.size 0 11 11 (Gz.map dn) s (w.alloc (.cells (Gz.map fun l=>Value.string ⟨l.toArray⟩).toArray 9)) (by decide) (by decide) (Gv w);rw [List.take_of_length_le (by decide),KJ] at hC;have HF:=hid hF;have HC:=hid hC;clear hF hC ht;generalize hA:(Gz.map fun l=>Value.string ⟨l.toArray⟩).toArray=A at *;clear hA;go_enter Tryd.func84,Tryd.ntmps84;go_wp2_with fail;refine HF.out.mono ?_;rintro e w' ⟨rfl,rfl⟩;go_wp2_with fail;refine HC.out.mono ?_;rintro e w' ⟨rfl,rfl⟩;go_wp2;go_ret;exact ⟨rfl,ah.alloc _ _⟩
theorem Eb (s:ByteArray) (w:World):Calls Tryd.prog 26 #[.string s] w fun e w'=>e=.returned (.bool (OQ s.data.toList))/\ah w w':=by
 go_enter Tryd.func26,Tryd.ntmps26;go_wp2;have hcell:∀ j,j < 11->(w.alloc (.cells (Gz.map fun l=>Value.string ⟨l.toArray⟩).toArray 9)).cell? ⟨w.heap.size,j,none⟩=some (.string (dn (Gz.getD j []))):=by
  intro j hj;have:=Gv w j (by exact hj);simp only [Nat.zero_add] at this;rw [this]
  congr 2
  simp only [List.getD_eq_getElem?_getD,List.getElem?_map];rw [List.getElem?_eq_getElem (by exact hj)];rfl
 have Y7:=hid hcell;clear hcell;obtain ⟨W,hW⟩:∃ W,W=w.alloc (.cells (Gz.map fun l=>Value.string ⟨l.toArray⟩).toArray 9):=⟨_,rfl⟩;have HQ:Hid (ah w W):=by rw [hW];exact ah.alloc _ _
 rw [<-hW] at Y7;change Code.wp _ _ _ _ (w.alloc (.cells (Gz.map fun l=>Value.string ⟨l.toArray⟩).toArray 9));rw [<-hW];clear hW;generalize w.heap.size=b at *;go_loop [4] (fun t=>∃ n:Nat,t=.int .i64 n/\n<=11/\OQ s.data.toList=(Gz.drop n).contains s.data.toList) (fun t=>11-(intOf t).toNat)
 case atStart=>exact ⟨0,rfl,by omega,rfl⟩
 case round =>
  obtain ⟨n,rfl,hn,he⟩:=hrel;have HE:=hid he;clear he
  by_cases hlt:n < 11
  ·have c:=Y7.out n hlt;have hd:Gz.drop n=Gz.getD n []::Gz.drop (n+1):=by
    rw [List.drop_eq_getElem_cons (by exact hlt),List.getD_eq_getElem?_getD,List.getElem?_eq_getElem (by exact hlt)];rfl
   have HD:=hid hd;clear hd;have hlt':(n:Int) < 11:=by omega
   generalize Gz.getD n []=x at *;cases hx:((dn x).toList == s.toList)
   ·have hx' : (s.data.toList == x) = false := by
      rw [beq_eq_false_iff_ne] at hx ⊢;intro h;apply hx;rw [ByteArray.toList_eq,ByteArray.toList_eq,uD,h]
    have HX':=hid hx';clear hx';go_wp2;go_round
    case rel=>exact ⟨n+1,by go_num,by omega,by rw [HE.out,HD.out,List.contains_cons,HX'.out];rfl⟩
    case measure=>simp [intOf];omega
   ·have hx' : s.data.toList = x := by
      rw [beq_iff_eq] at hx;rw [ByteArray.toList_eq,ByteArray.toList_eq,uD] at hx;exact hx.symm
    have HX':=hid hx';clear hx';go_wp2;go_ret;exact ⟨by rw [HE.out,HD.out,List.contains_cons,HX'.out];simp,HQ.out⟩
  ·have adD:n=11:=by omega
   subst adD;go_wp2;go_ret;exact ⟨by rw [HE.out];rfl,HQ.out⟩
theorem Wi:∀ args w,(callFunc 83 args).run Tryd.prog w=.ok (.enter 83 args) w:=enters_of Tryd.func83 (by kernel_rfl) rfl
end Lx
end
section
namespace Lx
open Go.RowKit
theorem Yv (l:List UInt8):aO true l=dI mZ l+aO false (l.drop (dI mZ l)):=by
 induction l with
 | nil=>rfl
 | cons c r ih =>
  by_cases h:(c == 10)=true
  ·have hb:lu c=true:=by unfold lu;rw [h];simp
   simp [aO,dI,mZ,h,hb]
  ·have h':(c == 10)=false:=by simpa using h
   have hn:mZ c=true:=by unfold mZ;rw [h'];rfl
   simp only [aO,dI,h',hn,if_true,Bool.false_eq_true,if_false,List.drop_succ_cons];rw [ih];omega
theorem QZ {c:UInt8} {r:List UInt8} (hb:lu c=false) (h:(c == 35)=true):aO false (c::r)=dI mZ (c::r)+aO false ((c::r).drop (dI mZ (c::r))):=by
 have hc:c=35:=by simpa using h
 subst hc;have:=Yv ((35:UInt8)::r);rw [<-this];simp [aO,lu]
theorem Ec {c:UInt8} {r:List UInt8} (hb:lu c=true):aO false (c::r)=1+aO false r:=by simp [aO,hb];omega
theorem Gw {c:UInt8} {r:List UInt8} (hb:lu c=false) (h:(c == 35)=false):aO false (c::r)=0:=by simp [aO,hb,h]
theorem Yw (x:UInt8):((x.toNat:Int) == 35)=(x == 35):=by
 rw [show (35:UInt8)=UInt8.ofNat 35 from rfl,rJ _ _ (by omega),Bool.eq_iff_iff];simp;omega
theorem Q5 {c:UInt8} {r:List UInt8} (h:(c == 35)=true):0 < dI mZ (c::r):=by
 have hc:c=35:=by simpa using h
 subst hc;exact qG (by decide)
def aaR (l:List UInt8):Nat × Nat × Nat :=
 if (decide (1 < dI dD l) && gU (fun c=>c == 48) l) || gU bI (l.drop (dI dD l)) then (0,0,3) else if 9 < dI dD l then (0,0,2) else (2,dI dD l,0)
theorem Yx (x:UInt8):((x.toNat:Int) == 48)=(x == 48):=by
 rw [show (48:UInt8)=UInt8.ofNat 48 from rfl,rJ _ _ (by omega),Bool.eq_iff_iff];simp;omega
end Lx
end
section
namespace Lx
open Go.RowKit
theorem Ed (x:UInt8) (r:List UInt8):Lib.hasPrefix (x::r) [45,62]=(x == 45 && gU (fun d=>d == 62) r):=by
 unfold Lib.hasPrefix;cases r with
 | nil=>cases h:(x == 45)<;>simp [List.isPrefixOf,gU]
 | cons d r=>simp only [List.isPrefixOf,gU,Bool.and_true];rw [Bool.eq_iff_iff];simp;constructor<;>(rintro ⟨h1,h2⟩;exact ⟨h1.symm,h2.symm⟩)
theorem Np {x:UInt8} {r:List UInt8} (h:gQ x=true):nextL (x::r)=if OQ ((x::r).take (dI bI (x::r))) then (3,dI bI (x::r),0) else if 20 < dI bI (x::r) then (0,0,2) else (1,dI bI (x::r),0):=by simp [nextL,h]
theorem Nq {x:UInt8} {r:List UInt8} (h1:gQ x=false) (h:dD x=true):nextL (x::r)=aaR (x::r):=by simp [nextL,aaR,gU,h1,h]
theorem Q7 {x:UInt8} {r:List UInt8} (h1:gQ x=false) (h2:dD x=false) (h:vN x=true):nextL (x::r)=(4,1,0):=by simp [nextL,h1,h2,h]
theorem Ee {x:UInt8} {r:List UInt8} (h1:gQ x=false) (h2:dD x=false) (h3:vN x=false):nextL (x::r)=if Lib.hasPrefix (x::r) [45,62] then (4,2,0) else (0,0,3):=by simp [nextL,h1,h2,h3,Ed]
end Lx
end
section
namespace Lx
open Go.RowKit
def nG (t:Tok):List Value:=[.int .i64 (t.kind:Nat),.string (dn t.text),.int .i64 (t.fr:Nat),.int .i64 (t.to:Nat)]
def jV (ts:List Tok):List Value:=ts.flatMap nG
theorem EY (ts:List Tok) (t:Tok):jV (ts++[t])=jV ts++nG t:=by simp [jV]
def pV (w:World) (B:Nat) (v:Value) (ts:List Tok):Prop:=w.ownsRow 0 55 4 v ts.length (jV ts)/\∀ k,v.ownBlock=some k->B<=k
def oJ (l:List UInt8) (w:World) (e:Ending) (w':World):Prop :=
 ah w w'/\match jZ l with
  | .inl ts=>∃ g c,e=.returned (.tuple #[.slice (some ⟨g,0,none⟩) ts.length c,.int .i64 0,.int .i64 0])/\pV w' w.heap.size (.slice (some ⟨g,0,none⟩) ts.length c) ts
  | .inr p=>e=.returned (.tuple #[.slice none 0 0,.int .i64 (p.1:Nat),.int .i64 (p.2:Nat)])
theorem OJ:Elem Tryd.prog 49 55 (.agg #[.int .i64 0,.string ⟨#[]⟩,.int .i64 0,.int .i64 0]) 4 40 :=
 ⟨Tryd.underlying49,by kernel_rfl,by decide,by decide⟩
theorem Ef {w W w1 : World} {B : Nat} {v : Value} {acc : List Tok} {t : Tok} {g c : Nat} (hq : ah w W) (hB : B = w.heap.size) (hr : pV W B v acc)
    (ho:w1.ownsRow 0 55 4 (.slice (some ⟨g,0,none⟩) (acc.length+1) c) (acc.length+1) (jV acc++nG t)) (hf:Fr (fun k=>v.ownBlock=some k) W w1) (hg:v.ownBlock=some g∨W.heap.size<=g) :
    pV w1 B (.slice (some ⟨g,0,none⟩) (acc++[t]).length c) (acc++[t])/\ah w w1:=by
 subst hB;refine ⟨⟨by rw [EY];simpa using ho,?_⟩,?_⟩
 ·intro k hk;simp [Value.ownBlock] at hk;subst hk;rcases hg with h | h
  ·exact hr.2 g h
  ·exact Nat.le_trans hq.size h
 ·exact Fr.trans' hq hf (fun i hi h=>absurd (hr.2 i h) (by omega))
end Lx
end
section
namespace Lx
open Go.RowKit
def Jc (w:World) (g:Nat) (ts:List Tok):Prop:=∀ i t,ts[i]?=some t->w.cell? ⟨g,i*4,none⟩=some (.int .i64 (t.kind:Nat))/\w.cell? ⟨g,i*4+1,none⟩=some (.string (dn t.text))/\w.cell? ⟨g,i*4+2,none⟩=some (.int .i64 (t.fr:Nat))/\w.cell? ⟨g,i*4+3,none⟩=some (.int .i64 (t.to:Nat))
theorem Ar:∀ (ts:List Tok) (i j:Nat) (t:Tok),ts[i]?=some t->j < 4->(jV ts)[i*4+j]?=(nG t)[j]?
 | [],i,j,t,h,_=>by simp at h
 | a::ts,0,j,t,h,hj=>by
  simp at h;subst h;simp only [jV,List.flatMap_cons,Nat.zero_mul,Nat.zero_add];exact List.getElem?_append_left (by simp [nG];omega)
 | a::ts,i+1,j,t,h,hj=>by
  have ih:=Ar ts i j t (by simpa using h) hj;simp only [jV,List.flatMap_cons] at ih ⊢;rw [List.getElem?_append_right (by simp [nG];omega),<-ih]
  congr 1
  simp [nG];omega
theorem pV.at {w:World} {B:Nat} {g n c:Nat} {ts:List Tok} (h:pV w B (.slice (some ⟨g,0,none⟩) n c) ts):Jc w g ts:=by
 intro i t hi;have key:∀ j u,j < 4->(nG t)[j]?=some u->w.cell? ⟨g,i*4+j,none⟩=some u:=by
  intro j u hj hu;have h1:=Ar ts i j t hi hj;have h2:=h.1.cells (g:=g) rfl (i*4+j) u (by rw [h1,hu]);simpa [Addr.add_lit] using h2
 exact ⟨by simpa using key 0 _ (by omega) rfl,key 1 _ (by omega) rfl,key 2 _ (by omega) rfl,key 3 _ (by omega) rfl⟩
theorem pV.lt {w:World} {B:Nat} {g n c:Nat} {ts:List Tok} (h:pV w B (.slice (some ⟨g,0,none⟩) n c) ts):B<=g/\g < w.heap.size:=⟨h.2 g rfl,(World.ownsRow.lt h.1 g rfl).2⟩
theorem Jc.stay {w w':World} {g:Nat} {ts:List Tok} (h:Jc w g ts) (hg:g < w.heap.size) (hq:ah w w'):Jc w' g ts:=by
 intro i t hi;obtain ⟨h1,h2,h3,h4⟩:=h i t hi;exact ⟨(hq.aY hg (fun h=>h)).trans h1,(hq.aY hg (fun h=>h)).trans h2,(hq.aY hg (fun h=>h)).trans h3,(hq.aY hg (fun h=>h)).trans h4⟩
end Lx
end
section
namespace Lx
open Go.RowKit
def nameB (l:List UInt8):Bool:=gU gQ l && decide (dI bI l=l.length) && decide (l.length<=20) && !OQ l
theorem wI (s:ByteArray):s.toList.isEmpty=decide (s.size=0):=by
 rw [ByteArray.toList_eq,Bool.eq_iff_iff,decide_eq_true_eq,List.isEmpty_iff,<-bH,List.length_eq_zero_iff]
theorem name_any (s : ByteArray) (hs : s.size <= 100000) (w : World) (ht : kD w) :
    Calls Tryd.prog 71 #[.string s] w fun e w'=>e=.returned (.bool (nameB s.data.toList))/\ah w w':=by
 have HT:=hid ht;have HS:Hid (s.size<=maxLen):=by show _<=_;unfold maxLen;omega
 clear ht;have HE:=hid (wI s);obtain ⟨res,hres⟩:∃ res,res=nameB s.data.toList:=⟨_,rfl⟩;have aQ:=hid hres;rw [<-hres];clear hres
 by_cases h0:s.size=0
 ·have e1:s.toList.isEmpty=true:=by rw [HE.out];simpa using h0
  have e2:s.toList=[]:=by simpa using e1
  have HF:Hid (res=false):=by
   show _=_
   rw [aQ.out];have:s.data.toList=[]:=by rw [<-List.length_eq_zero_iff,bH];exact h0
   rw [this];rfl
  clear h0;go_enter Tryd.func71,Tryd.ntmps71;go_wp2_with fail;go_ret;exact ⟨by rw [HF.out];first | rfl | simp_all,ah.refl _⟩
 ·have e1:s.toList.isEmpty=false:=by rw [HE.out];simpa using h0
  have e2:¬ s.toList=[]:=by simpa using e1
  have hpos:0 < s.size:=by omega
  have HD:Hid (s.data.toList=s[0]::s.data.toList.drop 1):=by
   have:=drop_byte s 0 hpos;rw [List.drop_zero] at this;exact this
  have HB:=hid (F5 s[0]);obtain ⟨x,hx⟩:∃ x,s[0]=x:=⟨_,rfl⟩;rw [hx] at HD HB;have hrl:=og bI s.data.toList;rw [bH] at hrl;have HR:=hid (fun W=>run_any 83 bI Wi QB s 0 0 rfl (by omega) HS.out W);rw [List.drop_zero] at HR;have HK:=hid (fun W h=>KL s W h);have HN:Hid (res=(gQ x && decide (dI bI s.data.toList=s.size) && decide (s.size<=20) && !OQ s.data.toList)):=by
   show _=_
   rw [aQ.out];unfold nameB;rw [bH,HD.out];rfl
  clear aQ HE HD h0;generalize dI bI s.data.toList=rn at *;cases hsm:gQ x
  ·have EW:=hid hsm;clear hsm;go_enter Tryd.func71,Tryd.ntmps71;go_wp2_with fail;refine (HB.out _).mono ?_;rintro e w' ⟨rfl,rfl⟩;rw [EW.out];go_wp2_with fail;go_ret;exact ⟨by rw [HN.out,EW.out];rfl,ah.refl _⟩
  ·have EW:=hid hsm;clear hsm
   by_cases hrn:rn=s.size
   ·have hr1:((rn:Int) == (s.size:Int))=true:=by simp [hrn]
    have uh:=hid hrn;clear hrn
    by_cases h20:s.size<=20
    ·have aaS:(s.size:Int)<=20:=by omega
     cases hkw:OQ s.data.toList
     all_goals
      have HKW:=hid hkw;clear hkw;go_enter Tryd.func71,Tryd.ntmps71;go_wp2_with fail;refine (HB.out _).mono ?_;rintro e w' ⟨rfl,rfl⟩;rw [EW.out];go_wp2_with fail;refine (HR.out _).mono ?_;rintro e w' ⟨rfl,rfl⟩;go_wp2_with fail;refine (HK.out _ HT.out).mono ?_;rintro e w' ⟨rfl,hq⟩;rw [HKW.out];go_wp2_with fail;go_ret;exact ⟨by rw [HN.out,EW.out,HKW.out,uh.out];simp [h20],hq⟩
    ·have aaS:¬ (s.size:Int)<=20:=by omega
     go_enter Tryd.func71,Tryd.ntmps71;go_wp2_with fail;refine (HB.out _).mono ?_;rintro e w' ⟨rfl,rfl⟩;rw [EW.out];go_wp2_with fail;refine (HR.out _).mono ?_;rintro e w' ⟨rfl,rfl⟩;go_wp2_with fail;go_ret;exact ⟨by rw [HN.out,EW.out,uh.out];simp [h20],ah.refl _⟩
   ·have hr1:((rn:Int) == (s.size:Int))=false:=by simp;omega
    have uh:=hid hrn;clear hrn;go_enter Tryd.func71,Tryd.ntmps71;go_wp2_with fail;refine (HB.out _).mono ?_;rintro e w' ⟨rfl,rfl⟩;rw [EW.out];go_wp2_with fail;refine (HR.out _).mono ?_;rintro e w' ⟨rfl,rfl⟩;go_wp2_with fail;go_ret;exact ⟨by rw [HN.out,EW.out];simp [uh.out],ah.refl _⟩
theorem Eh {p:UInt8->Bool} {l:List UInt8} (h:dI p l < l.length):dI p l≠l.length:=by omega
end Lx
end
end Go.Proofs.YtcninopmelmajaaDoor
