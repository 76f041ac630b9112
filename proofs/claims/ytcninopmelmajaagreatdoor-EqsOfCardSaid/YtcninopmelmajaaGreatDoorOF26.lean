/-
  Texts laid together (ScStr, ScBare, ScCall, ScAround, ScList, ScRFree, ScWalk0): laws and walks, with their conditions.
-/
import Derived.Deep.QuietTactic
import Derived.Test.YtcninopmelmajaaGreatDoorOF13
import Derived.Test.YtcninopmelmajaaGreatDoorOF20
set_option maxHeartbeats 8000000
set_option maxRecDepth 1000000
namespace Go.Proofs.YtcninopmelmajaaGreatDoor
open Go.Lib (hid)
section
open Go.RowKit Go.Shelf
namespace Sc
def BX (w:World) (o:Option Addr) (l:List ByteArray):Prop:=∀ j s,l[j]?=some s->∃ b off,o=some ⟨b,off,none⟩/\w.cell? ⟨b,off+j,none⟩=some (.string s)
theorem BX.stay {w w':World} {o:Option Addr} {l:List ByteArray} (h:BX w o l) (hq:ah w w'):BX w' o l:=by
 intro j s hs;obtain ⟨b,off,h0,h1⟩:=h j s hs;exact ⟨b,off,h0,hq.at h1⟩
def strs (l:List ByteArray):List Value:=l.map .string
end Sc
end
section
namespace Sc
def LU (k:Int):Bool:=k == 1 || Yx k
def okF:To->Prop
 | .nil=>True
 | .cons h ps r=>(h.k=1->ps=.nil)/\(LU h.k=false->h.nm=ByteArray.empty)/\okF ps/\okF r
end Sc
end
section
namespace Sc
section
variable (ok:ByteArray->Bool)
end
def nN:Int->ByteArray->Nat->List ByteArray->To->List Nd
 | _,_,_,_,.nil=>[]
 | bk,nm,i,e,.cons h ps r=>(if h.k=1 then (if ix (bZ bk nm i e) h.nm < 0 then [h] else []) else nN h.k h.nm 0 (bZ bk nm i e) ps)++nN bk nm (i+1) e r
def bP (e:List ByteArray) (h:Nd) (ps:To):List Nd:=if h.k=1 then (if ix e h.nm < 0 then [h] else []) else nN h.k h.nm 0 e ps
theorem rE (bk:Int) (nm:ByteArray) (i:Nat) (e:List ByteArray) (h:Nd) (ps r:To):nN bk nm i e (.cons h ps r)=bP (bZ bk nm i e) h ps++nN bk nm (i+1) e r:=rfl
def PU (s:List Nd) (x:Nd) (e:List ByteArray):List Nd:=if ix e x.nm < 0 then s++[x] else s
theorem GR (out:Nd->List ByteArray->Nd):∀ (f:To) (bk:Int) (nm:ByteArray) (i:Nat) (s:List Nd) (e:List ByteArray),(wk PU out bk nm i s e f).1=s++nN bk nm i e f
 | .nil,_,_,_,s,_=>by simp [wk,nN]
 | .cons h ps r,bk,nm,i,s,e=>by
  rw [NQ,rE];simp only;rw [GR out r];unfold Aq bP
  by_cases h1:h.k=1
  ·simp only [if_pos h1];unfold PU
   split<;>simp
  ·simp only [if_neg h1];rw [GR out ps];simp
theorem TI (out:Nd->List ByteArray->Nd) (s:List Nd) (e:List ByteArray) (h:Nd) (ps:To):(Aq PU out s e h ps).1=s++bP e h ps:=by
 unfold Aq bP
 by_cases h1:h.k=1
 ·simp only [if_pos h1];unfold PU;split<;>simp
 ·simp only [if_neg h1];rw [GR out ps]
end Sc
end
section
open Go.RowKit Go.Shelf
namespace Sc
theorem jh.str {T:Nat->Prop} {w:World} {o:Option Addr} {n:Nat} {e:List ByteArray} (h:jh T w o n e):BX w o e.reverse:=by
 intro j s hj;have hl:=(List.getElem?_eq_some_iff.1 hj).1;obtain ⟨b,he,_,hc⟩:=h.2.2 (by have:=h.1;simp at hl;omega);exact ⟨b,0,he,by rw [Nat.zero_add];exact hc j s hj⟩
theorem EY {w:World} {b:Nat} (h:w.heap[b]?=some (.cells #[] 9 (0,0))):w.ownsRow 0 9 1 (.slice (some ⟨b,0,none⟩) 0 0) ([]:List ByteArray).length (strs []) :=
 ⟨rfl,.inr ⟨b,0,#[],rfl,Nat.zero_le _,h,Nat.le_refl _,Nat.zero_le _,rfl,rfl⟩⟩
theorem Jc (w : World) (ty : TypeId) (v : Value) (n : Nat) (xs : List Value) (hown : w.ownsRow 0 9 1 v n xs) (hv : v ≠ .slice none 0 0) (o : Option Addr) (c : Nat) :
    (Builtin.append_ #[49,49] ty #[v,.slice o 0 c]).run Tryz.prog w=.ok v w:=by
 rcases hown.2 with ⟨rfl,_⟩ | ⟨g,cap,cur,rfl,_,hg,hc,hm,hs,_⟩
 ·exact absurd rfl hv
 ·obtain ⟨i0,hi,hz0,hz1,hz2⟩:=info_parts nC.info;have hu:=nC.under;cases o<;>simp [Builtin.append_,run_underlying hu,sizeOf,typeInfo,hi,Builtin.lenOf,Builtin.firstCells,loadCells,loadCellsFrom,storeCells,hc]
theorem qO {ops : Array Oper} {o : Oper} {a : Act} {K : Act -> World -> Prop} {Q : Exit -> Act -> World -> Prop} {E : Prop} (W : World)
    (hg:o.guard=none) (s x:Operand) (hop:o.op=Op.call { callee:=Callee.builtin Builtin.append,args:=#[s,x],argTypes:=#[49,49] })
    (v:Value) (xs:List ByteArray) (hs:a.eval s=v) (hown:W.ownsRow 0 9 1 v xs.length (strs xs)) (va:Option Addr) (ys:List ByteArray) (m c:Nat) (hm:m=ys.length) (hx:a.eval x=.slice va m c) (hat:BX W va ys) (hb:xs.length+ys.length<=1000000) (hne:v≠.slice none 0 0)
    (hK:∀ v' w',w'.ownsRow 0 9 1 v' (xs++ys).length (strs (xs++ys))->Fr (fun k=>v.ownBlock=some k) W w'->(∀ g,v'.ownBlock=some g->v.ownBlock=some g∨g=W.heap.size)->v'≠.slice none 0 0->K (a.put o.dst v') w') :
    if Region.wanted o (yielded ops a.tmps)=true then Oper.wp Tryz.prog o a W K Q else E:=by
 subst hm;rw [if_pos (by unfold Region.wanted;rw [hg])]
 by_cases h0:ys=[]
 ·subst h0;have hr:=Jc W o.type v _ _ hown hne va c;unfold Oper.wp execOp;simp only [hop,resolve,invoke,builtin,Sem.run_bind,Sem.run_pure,Result.andThen_ok,List.map_toArray,List.map_cons,List.map_nil,hs,hx,List.length_nil,hr];exact hK v W (by simpa using hown) (Fr.refl _ _) (fun g h=>.inl h) hne
 ·obtain ⟨y,r,rfl⟩:=List.exists_cons_of_ne_nil h0;obtain ⟨b,off,rfl,_⟩:=hat 0 y rfl;obtain ⟨i0,hi,hz0,hz1,hz2⟩:=info_parts nC.info;refine wp_append_lies (P:=Tryz.prog) W s x 49 hop 0 9 i0 (.string ⟨#[]⟩) 1 16 nC.under hi hz0 hz1 hz2 nC.cells nC.pos v xs.length (strs xs) hs hown ⟨b,off,none⟩ (y::r).length c (strs (y::r)) hx (by simp [strs]) ?_ (by unfold strs;intro u hu;obtain ⟨z,_,rfl⟩:=List.mem_map.1 hu;rfl) (by simp) (by unfold maxLen;omega) (by omega) (Nat.zero_le _) _ rfl ?_
  ·intro j u hj;unfold strs at hj;rw [List.getElem?_map] at hj;cases hz:(y::r)[j]? with
   | none=>rw [hz] at hj;cases hj
   | some z =>
    rw [hz] at hj;cases hj;obtain ⟨b',off',he,hc⟩:=hat j z hz;cases he;simpa [Addr.add_lit] using hc
  ·intro g cap w' ho hgr hg' _;refine hK _ w' ?_ (Fr.grown hgr (fun k hk=>hk)) ?_ (by simp)
   ·rw [List.length_append];unfold strs at *;rw [List.map_append];exact ho
   ·intro g2 h2;simp [Value.ownBlock] at h2;subst h2;exact hg'
theorem GU {W:World} {b:Nat} {n:ByteArray} (h:W.heap[b]?=some (.cells #[.string n] 9 (0,0))):BX W (some ⟨b,0,none⟩) [n]:=by
 intro i x hx;cases i with
 | zero =>
  simp at hx;subst hx;exact ⟨b,0,rfl,by rw [cell_of_row _ _ _ _ _ (0,0) h];rfl⟩
 | succ i=>simp at hx
def LV (T:Nat->Prop) (w:World) (e:List ByteArray) (x:Ending) (w':World):Prop:=∃ o c,x=.returned (.slice o e.length c)/\jh (fun k=>T k∨w.heap.size<=k) w' o e.length e/\ah w w'
theorem Zq {T : Nat -> Prop} {w w4 : World} {v : Value} {L e : List ByteArray} {nm : ByteArray} (ho : w4.ownsRow 0 9 1 v ([] ++ L ++ [nm]).length (strs ([] ++ L ++ [nm]))) (hr : e.reverse = L) (hg : ∀ g, v.ownBlock = some g -> w.heap.size <= g) (hq : ah w w4) (hz : e.length <= 900000) :
    LV T w (nm::e) (.returned v) w4:=by
 subst hr;simp only [List.nil_append,List.length_append,List.length_reverse,List.length_cons,List.length_nil,Nat.zero_add] at ho;obtain ⟨g,c,rfl,_,_⟩:=ho.form (by omega);refine ⟨_,c,rfl,?_,hq⟩;have ho':w4.ownsRow 0 9 1 (.slice (some ⟨g,0,none⟩) (e.length+1) c) (e.length+1) (e.reverse.map Value.string++[.string nm]):=by
  have e2:strs (e.reverse++[nm])=e.reverse.map Value.string++[.string nm]:=by simp [strs]
  rw [<-e2];exact ho
 exact jh.Gs (n:=e.length+1) ho' rfl (by unfold maxLen;omega) (.inr (hg g rfl))
theorem LW (h : Nd) (o1 : Option Addr) (l1 c1 : Nat) (o2 : Option Addr) (l2 c2 : Nat) (i : Nat) (T : Nat -> Prop) (e : List ByteArray) (o : Option Addr) (n c : Nat) (w : World) (hN : jh T w o n e) (hz : n <= 900000) :
    Calls Tryz.prog 36 #[bI h o1 l1 c1 o2 l2 c2,.int .i64 (i:Nat),.slice o n c] w (LV T w (bZ h.k h.nm i e)):=by
 have HN:=hid hN;have e1:((i:Int) == 1)=(i == 1):=by rw [Bool.eq_iff_iff,beq_iff_eq,beq_iff_eq];omega
 obtain ⟨W0,hW0⟩:∃ W0,W0=w.alloc (.cells (cells9 h o1 l1 c1 o2 l2 c2) 29):=⟨_,rfl⟩;have aP:Hid (ah w W0):=by rw [hW0];exact ah.alloc _ _
 have yV:Hid (∀ W,ah W0 W->dJ W w.heap.size 0 h o1 l1 c1 o2 l2 c2):=by
  intro W hq;rw [hW0] at hq;exact IQ w h o1 l1 c1 o2 l2 c2 _ W hq
 have ny:Hid (∀ W,ah W0 W->W.cell? ⟨w.heap.size,1,none⟩=some (.string h.nm)):=fun W hq=>(yV.out W hq).2.1
 have HZ:Hid (W0.heap.size=w.heap.size+1):=by show _=_;rw [hW0];simp
 cases hb:mP h.k i
 case false =>
  have HE:Hid (bZ h.k h.nm i e=e):=by show _=_;unfold bZ;rw [hb];rfl
  unfold mP at hb;simp only [Bool.or_eq_false_iff] at hb;obtain ⟨⟨h4,h7⟩,h6⟩:=hb;clear hN;rw [HE.out];have Jd:=hid HN.out.1;unfold bI;cases h6k:(h.k == 6)
  ·go_enter Tryz.func36,Tryz.ntmps36;go_upto_region 1 with fail
   rw [<-hW0];clear hW0 h6;obtain ⟨a0,a1,a2,a3,a4,a5,a6,a7,a8⟩:=yV.out W0 (ah.refl _);go_wp2_with fail;go_ret;exact ⟨o,c,by rw [<-Jd.out];rfl,Jd.out ▸ (HN.out.stay aP.out).fr (Fr.refl (fun _=>False) _) (fun k _ h=>⟨.inl h,fun h=>h⟩),aP.out⟩
  ·rw [h6k] at h6;have h1:(i == 1)=false:=by simpa using h6
   rw [h1] at e1;go_enter Tryz.func36,Tryz.ntmps36;go_upto_region 1 with fail
   rw [<-hW0];clear hW0 h6;obtain ⟨a0,a1,a2,a3,a4,a5,a6,a7,a8⟩:=yV.out W0 (ah.refl _);go_wp2_with fail;go_ret;exact ⟨o,c,by rw [<-Jd.out];rfl,Jd.out ▸ (HN.out.stay aP.out).fr (Fr.refl (fun _=>False) _) (fun k _ h=>⟨.inl h,fun h=>h⟩),aP.out⟩
 case true =>
  have HE:Hid (bZ h.k h.nm i e=h.nm::e):=by show _=_;unfold bZ;rw [hb];rfl
  unfold mP at hb;have hc:(h.k == 4)=true∨((h.k == 4)=false/\(h.k == 7)=true)∨((h.k == 4)=false/\(h.k == 7)=false/\(h.k == 6)=true/\(i == 1)=true):=by
   cases h4:(h.k == 4)
   ·cases h7:(h.k == 7)
    ·rw [h4,h7] at hb;simp only [Bool.false_or,Bool.and_eq_true] at hb;exact .inr (.inr ⟨rfl,rfl,hb.1,hb.2⟩)
    ·exact .inr (.inl ⟨rfl,rfl⟩)
   ·exact .inl rfl
  have hlen:=hN.1;have HAT:Hid (BX W0 o e.reverse):=(hN.stay aP.out).str;have hrl:e.reverse.length=n:=by rw [List.length_reverse,hlen]
  rw [HE.out];clear hN hb;generalize hr:e.reverse=L at *;have Ei:=hid hr;have HLEN:=hid hlen;clear hr;have aa9:=aP.out.size;clear hlen;unfold bI;rcases hc with h4 | ⟨h4,h7⟩ | ⟨h4,h7,h6,h1⟩
  all_goals
   first | rw [h1] at e1 | skip
   go_enter Tryz.func36,Tryz.ntmps36;go_upto_region 1 with fail
   rw [<-hW0];clear hW0;obtain ⟨a0,a1,a2,a3,a4,a5,a6,a7,a8⟩:=yV.out W0 (ah.refl _);clear a1 a2 a3 a4 a5 a6 a7 a8;go_upto_region 2 with fail
   clear a0;have hqc:=ah.refl W0;have HLO:Hid (w.heap.size<=W0.heap.size):=aa9;clear aa9;go_region_held3 (fun w'=>w'.cell? ⟨w.heap.size,1,none⟩=some (.string h.nm))
    (((refine ny.out _ ?_);(repeat with_reducible first | exact hqc | exact ah.refl _ | refine jq ?_ | refine jr ?_)))
    (first
     | ((refine qO _ rfl (.tmp 24) (.tmp 25) rfl (.slice (some ⟨W0.heap.size,0,none⟩) 0 0) [] rfl ?hown o L n c hrl.symm rfl ?hat ?hbd ?hne ?_);(case hown=>((refine EY ?_);(repeat (first | ((with_reducible refine iE _ _ _ _ ?hbe);(case hbe=>(simp;done))) | with_reducible refine au (ah.alloc _ _) ?_ | with_reducible refine eu ?_ | fail))));(case hat=>((refine HAT.out.stay ?_);(repeat with_reducible first | exact hqc | exact ah.refl _ | refine jq ?_ | refine jr ?_)));(case hbd=>(simp;omega));(case hne=>simp);intro v3 w3 ho3 hf3 hg3 hn3;(refine jZ (w0:=W0) ?hch hf3 ?hlo ?_);(case hch=>(repeat with_reducible first | exact hqc | exact ah.refl _ | refine jq ?_ | refine jr ?_));(case hlo=>(intro k hk;simp [Value.ownBlock] at hk;omega));intro hqc hw3)
     | ((refine qO _ rfl (.tmp 24) (.tmp 25) rfl (.slice (some ⟨W0.heap.size+1,0,none⟩) 0 0) [] rfl ?hown o L n c hrl.symm rfl ?hat ?hbd ?hne ?_);(case hown=>((refine EY ?_);(repeat (first | ((with_reducible refine iE _ _ _ _ ?hbe);(case hbe=>(simp;done))) | with_reducible refine au (ah.alloc _ _) ?_ | with_reducible refine eu ?_ | fail))));(case hat=>((refine HAT.out.stay ?_);(repeat with_reducible first | exact hqc | exact ah.refl _ | refine jq ?_ | refine jr ?_)));(case hbd=>(simp;omega));(case hne=>simp);intro v3 w3 ho3 hf3 hg3 hn3;(refine jZ (w0:=W0) ?hch hf3 ?hlo ?_);(case hch=>(repeat with_reducible first | exact hqc | exact ah.refl _ | refine jq ?_ | refine jr ?_));(case hlo=>(intro k hk;simp [Value.ownBlock] at hk;omega));intro hqc hw3)
     | ((refine qO _ rfl (.tmp 26) (.tmp 29) rfl v3 ([]++L) rfl ?hown (some ⟨W0.heap.size,0,none⟩) [h.nm] 1 1 rfl rfl ?hat ?hbd hn3 ?_);(case hown=>(first | with_reducible exact ho3 | with_reducible exact ho3.alloc _ | fail));(case hat=>((refine GU ?_);(repeat (first | ((with_reducible refine iE _ _ _ _ ?hbe);(case hbe=>(simp;done))) | with_reducible refine au (ah.alloc _ _) ?_ | with_reducible refine eu ?_ | ((with_reducible refine aC hf3 ?uZ ?_);(case uZ=>(simp [Value.ownBlock];done))) | ((with_reducible refine aC hf3 ?uZ ?_);(case uZ=>(simp [Value.ownBlock];omega))) | fail))));(case hbd=>(simp;omega));intro v4 w4 mM hf4 hg4 hn4;(refine jZ (w0:=W0) ?hch hf4 ?hlo ?_);(case hch=>(repeat with_reducible first | exact hqc | exact ah.refl _ | refine jq ?_ | refine jr ?_));(case hlo=>(intro k hk;rcases hg3 k hk with h | h;(simp [Value.ownBlock] at h;omega);(simp at h;omega)));intro hqc hw4)
     | ((refine qO _ rfl (.tmp 26) (.tmp 29) rfl v3 ([]++L) rfl ?hown (some ⟨W0.heap.size+1,0,none⟩) [h.nm] 1 1 rfl rfl ?hat ?hbd hn3 ?_);(case hown=>(first | with_reducible exact ho3 | with_reducible exact ho3.alloc _ | fail));(case hat=>((refine GU ?_);(repeat (first | ((with_reducible refine iE _ _ _ _ ?hbe);(case hbe=>(simp;done))) | with_reducible refine au (ah.alloc _ _) ?_ | with_reducible refine eu ?_ | ((with_reducible refine aC hf3 ?uZ ?_);(case uZ=>(simp [Value.ownBlock];done))) | ((with_reducible refine aC hf3 ?uZ ?_);(case uZ=>(simp [Value.ownBlock];omega))) | fail))));(case hbd=>(simp;omega));intro v4 w4 mM hf4 hg4 hn4;(refine jZ (w0:=W0) ?hch hf4 ?hlo ?_);(case hch=>(repeat with_reducible first | exact hqc | exact ah.refl _ | refine jq ?_ | refine jr ?_));(case hlo=>(intro k hk;rcases hg3 k hk with h | h;(simp [Value.ownBlock] at h;omega);(simp at h;omega)));intro hqc hw4)
     | ((refine qO _ rfl (.tmp 26) (.tmp 29) rfl v3 ([]++L) rfl ?hown (some ⟨w3.heap.size,0,none⟩) [h.nm] 1 1 rfl rfl ?hat ?hbd hn3 ?_);(case hown=>(first | with_reducible exact ho3 | with_reducible exact ho3.alloc _ | fail));(case hat=>((refine GU ?_);(repeat (first | ((with_reducible refine iE _ _ _ _ ?hbe);(case hbe=>(simp;done))) | with_reducible refine au (ah.alloc _ _) ?_ | with_reducible refine eu ?_ | ((with_reducible refine aC hf3 ?uZ ?_);(case uZ=>(simp [Value.ownBlock];done))) | ((with_reducible refine aC hf3 ?uZ ?_);(case uZ=>(simp [Value.ownBlock];omega))) | fail))));(case hbd=>(simp;omega));intro v4 w4 mM hf4 hg4 hn4;(refine jZ (w0:=W0) ?hch hf4 ?hlo ?_);(case hch=>(repeat with_reducible first | exact hqc | exact ah.refl _ | refine jq ?_ | refine jr ?_));(case hlo=>(intro k hk;rcases hg3 k hk with h | h;(simp [Value.ownBlock] at h;omega);(simp at h;omega)));intro hqc hw4)
     | fail)
   all_goals
    go_wp2_with fail;go_ret;have hl0:=HLO.out;exact Zq mM Ei.out (fun g hg=>by
     rcases hg4 g hg with h | h
     ·rcases hg3 g h with h | h
      ·simp [Value.ownBlock] at h;omega
      ·first | omega | (simp at h;omega)
     ·first | omega | (simp at h;omega)) (aP.out.trans hqc) (by have:=HLEN.out;omega)
end Sc
end
section
open Go.RowKit
namespace Sc
theorem TJ {w0 W w3:World} {S:Nat->Prop} {G:Prop} (h:ah w0 W) (hf:Fr S W w3) (k:Fr S w0 w3->G):G:=k ((ah.fr h).trans hf)
theorem BZ (B:Nat) (W:World):ji B W none 0 [] []:=⟨World.ownsRow_nil _ _ _ _,rfl,fun k hk=>(by cases hk)⟩
theorem GV {B:Nat} {W W':World} {o:Option Addr} {c:Nat} {l:List Nd} {xs:List Value} {S:Nat->Prop} (h:ji B W o c l xs) (hf:Fr S W W') (hS:∀ k,(Value.slice o l.length c).ownBlock=some k->¬ S k):ji B W' o c l xs :=
 ⟨aV h.1 hf hS,h.2⟩
theorem Cb {B B':Nat} {W:World} {o:Option Addr} {c:Nat} {l:List Nd} {xs:List Value} (h:ji B W o c l xs) (hB:B'<=B):ji B' W o c l xs :=
 ⟨h.1,h.2.1,fun k hk=>Nat.le_trans hB (h.2.2 k hk)⟩
theorem LX {B:Nat} {W:World} {o:Option Addr} {c:Nat} {l:List Nd} {xs:List Value} (h:ji B W o c l xs):∀ j u,xs[j]?=some u->∃ a,o=some a/\W.cell? (a.add j)=some u:=by
 intro j u hu;rcases h.1.2 with ⟨_,h2⟩ | ⟨g,cap',cur,he,_⟩
 ·have hx:=h.2.1;rw [List.length_eq_zero_iff.1 h2] at hx;have:xs=[]:=hx;subst this;simp at hu
 ·injection he with h1 h2 h3
  subst h1;exact ⟨_,rfl,h.1.cells rfl j u hu⟩
theorem PV {ops : Array Oper} {op : Oper} {a : Act} {K : Act -> World -> Prop} {Q : Exit -> Act -> World -> Prop} {E : Prop} (W : World) (hg : op.guard = none) (s x : Operand)
    (hop:op.op=Op.call { callee:=Callee.builtin Builtin.append,args:=#[s,x],argTypes:=#[25,25] }) {B:Nat} {Wb:World}
    (o:Option Addr) (n c:Nat) (l:List Nd) (xs:List Value) (hs:a.eval s=.slice o n c) (hln:l.length=n) (hrow:ji B W o c l xs) (q:Option Addr) (m d:Nat) (l':List Nd) (ys:List Value) (hx:a.eval x=.slice q m d) (hlm:l'.length=m) (hrow2:ji 0 W q d l' ys)
    (hq:ah Wb W) (hB:B<=Wb.heap.size) (hb:n+m<=1000000)
    (hK:∀ o3 c3 w3,ji B w3 o3 c3 (l++l') (xs++ys)->Fr (fun k=>(Value.slice o n c).ownBlock=some k) W w3->K (a.put op.dst (.slice o3 (n+m) c3)) w3) :
    if Region.wanted op (yielded ops a.tmps)=true then Oper.wp Tryz.prog op a W K Q else E:=by
 subst hln;subst hlm;refine aJ W hg s x 25 hop 29 _ 9 112 wC (.slice o l.length c) l.length xs hs hrow.1 q l'.length d ys hx hrow2.1.1 (LX hrow2) (tK.one _ _ hrow2.2.1) (by unfold maxLen;omega) (by omega) ?_;intro o3 c3 w3 ho hf hob hnil;refine hK o3 c3 w3 ⟨by rw [List.length_append];exact ho,tK.app _ _ _ _ hrow.2.1 hrow2.2.1,?_⟩ hf;rw [List.length_append];intro k hk;have hz:=hq.size;rcases hob with h | h
 ·exact hrow.2.2 k (by rw [<-h];exact hk)
 ·rw [h] at hk;cases hk;omega
end Sc
end
section
open Go.RowKit Go.Shelf
namespace Sc
def vV (h:Nd) (ps:To):Prop:=h.k=1->ps=.nil
def Cc:To->Prop
 | .nil=>True
 | .cons h ps r=>vV h ps/\Cc ps/\Cc r
theorem Ce:∀ (f:To) (i:Nat) (h:Nd) (ps:To),Cc f->f.get i=some (h,ps)->vV h ps/\Cc ps
 | .nil,i,h,ps,_,e=>by simp [To.get] at e
 | .cons h ps r,0,h',ps',hw,e=>by
  simp [To.get] at e;obtain ⟨rfl,rfl⟩:=e;exact ⟨hw.1,hw.2.1⟩
 | .cons h ps r,i+1,h',ps',hw,e=>Ce r i h' ps' hw.2.2 e
theorem xZ:∀ f:To,okF f->Cc f
 | .nil,_=>trivial
 | .cons _ ps r,hw=>⟨hw.1,xZ ps hw.2.2.1,xZ r hw.2.2.2⟩
theorem PW {e:List ByteArray} {h:Nd} {ps:To} (hk:h.k=1):bP e h ps=if ix e h.nm < 0 then [h] else []:=by unfold bP;rw [if_pos hk]
theorem TK {e:List ByteArray} {h:Nd} {ps:To} (hk:¬ h.k=1):bP e h ps=nN h.k h.nm 0 e ps:=by unfold bP;rw [if_neg hk]
theorem yc:∀ (f:To) (bk:Int) (nm:ByteArray) (i:Nat) (e:List ByteArray),(nN bk nm i e f).length<=f.size
 | .nil,_,_,_,_=>Nat.zero_le _
 | .cons h ps r,bk,nm,i,e=>by
  have h1:=yc ps h.k h.nm 0 (bZ bk nm i e);have h2:=yc r bk nm (i+1) e;rw [rE,List.length_append];simp only [To.size];unfold bP
  split
  ·split
   ·simp;omega
   ·simp;omega
  ·omega
theorem EZ (e:List ByteArray) (h:Nd) (ps:To):(bP e h ps).length<=ps.size+1:=by
 have:=yc (.cons h ps .nil) 0 ByteArray.empty 0 e;rw [rE] at this;simp only [To.size,List.length_append] at this;have he:bZ 0 ByteArray.empty 0 e=e:=by unfold bZ mP;simp
 rw [he] at this;simp [nN] at this;omega
def TL (h:Nd) (ps:To):Prop:=∀ (w:World) (R T:Nat->Prop) (o1:Option Addr) (l1 c1:Nat) (o2:Option Addr) (l2 c2:Nat) (no:Option Addr) (nn nc:Nat) (e:List ByteArray),bD R w o2 l2 ps->jh T w no nn e->nn+ps.size<=200000->vV h ps->Cc ps ->
 Calls Tryz.prog 16 #[bI h o1 l1 c1 o2 l2 c2,.slice no nn nc] w (EX w (bP e h ps))
theorem Je (h:Nd) (ps:To):TL h ps:=by
 refine To.sG (T:=TL) ?_ h ps;intro h ps ih w R T o1 l1 c1 o2 l2 c2 no nn nc e hs hN hsz hv hav;have HS:=hid hs;have IH:=hid ih;have HN:=hid hN;have HAV:=hid hav;have hl:=hs.1;have hll:=To.length_le ps;rw [<-hl] at hll;have HL:=hid hl;obtain ⟨W0,hW0⟩:∃ W0,W0=w.alloc (.cells (cells9 h o1 l1 c1 o2 l2 c2) 29):=⟨_,rfl⟩;have HB:Hid (∀ W,ah W0 W->dJ W w.heap.size 0 h o1 l1 c1 o2 l2 c2):=by
  intro W hq;rw [hW0] at hq;exact IQ w h o1 l1 c1 o2 l2 c2 _ W hq
 have aP:Hid (ah w W0):=by rw [hW0];exact ah.alloc _ _
 have HZ:Hid (W0.heap.size=w.heap.size+1):=by show _=_;rw [hW0];simp
 have HI:=hid (Gt T e h.nm no nn nc W0 (hN.stay aP.out) (by omega));have Jd:=hid hN.1;clear hs ih hl hN hav;unfold bI
 by_cases hk:h.k=1
 ·have hk':(h.k == 1)=true:=by simp [hk]
  have hps:ps=.nil:=hv hk;rw [PW hk];have yQ:Hid (l2=0):=by have:=HL.out;rw [hps] at this;exact this
  clear hk hps hv;generalize ix e h.nm=r at *
  by_cases hx:r < 0
  ·rw [if_pos hx];go_enter Tryz.func16,Tryz.ntmps16;go_upto_region 1 with fail
   rw [<-hW0];clear hW0;obtain ⟨a0,a1,a2,a3,a4,a5,a6,a7,a8⟩:=HB.out W0 (ah.refl _);have hz0:=HZ.out;obtain ⟨W1,hW1⟩:∃ W1,W1=W0.alloc (.cells (cells9 h o1 l1 c1 o2 l2 c2) 29):=⟨_,rfl⟩;have hnew:=heap_alloc_new W0 (.cells (cells9 h o1 l1 c1 o2 l2 c2) 29);rw [<-hW1] at hnew;have bU:Hid (ah W0 W1):=by rw [hW1];exact ah.alloc _ _
   have l9:Hid (ji w.heap.size W1 (some ⟨W0.heap.size,0,none⟩) 1 [h] (cells9 h o1 l1 c1 o2 l2 c2).toList):=by
    refine ⟨⟨rfl,.inr ⟨W0.heap.size,1,cells9 h o1 l1 c1 o2 l2 c2,rfl,Nat.zero_le _,hnew,Nat.le_refl _,by decide,rfl,rfl⟩⟩,?_,?_⟩
    ·exact ⟨o1,l1,c1,o2,l2,c2,[],by simp,rfl⟩
    ·intro k hk;simp [Value.ownBlock] at hk;omega
   clear hnew hz0;go_wp2_with fail;refine HI.out.mono ?_;rintro x w2 ⟨rfl,rfl⟩;go_wp2_with fail;go_ret;change EX _ _ _ (W0.alloc (.cells (cells9 h o1 l1 c1 o2 l2 c2) 29));rw [<-hW1];exact ⟨_,1,_,rfl,l9.out,aP.out.trans bU.out⟩
  ·rw [if_neg hx];go_enter Tryz.func16,Tryz.ntmps16;go_upto_region 1 with fail
   rw [<-hW0];clear hW0;obtain ⟨a0,a1,a2,a3,a4,a5,a6,a7,a8⟩:=HB.out W0 (ah.refl _);go_wp2_with fail;refine HI.out.mono ?_;rintro x w2 ⟨rfl,rfl⟩;go_wp2_with fail;go_loopw [5,6] (fun s t wr=>s=.slice none 0 0/\t=.int .i64 0/\wr=W0) (fun _ t _=>0)
   case atStart=>exact ⟨rfl,rfl,rfl⟩
   case round =>
    obtain ⟨rfl,rfl,rfl⟩:=hrel;have h0:=yQ.out;subst h0;go_wp2_with fail;go_ret;exact ⟨none,0,[],rfl,BZ _ _,aP.out⟩
 ·have hk':(h.k == 1)=false:=by simp [hk]
  rw [TK hk];obtain ⟨RES,hres⟩:∃ RES,RES=nN h.k h.nm 0 e ps:=⟨_,rfl⟩;have aQ:=hid hres;rw [<-hres];have hlen:=yc ps h.k h.nm 0 e;rw [<-hres] at hlen;clear hres hv;go_enter Tryz.func16,Tryz.ntmps16;go_upto_region 1 with fail
  rw [<-hW0];clear hW0;generalize hnb:w.heap.size=nb at *;have zX:=hid hnb;clear hnb;obtain ⟨a0,a1,a2,a3,a4,a5,a6,a7,a8⟩:=HB.out W0 (ah.refl _);go_wp2_with fail;clear a0 a1 a2 a3 a4 a5 a6 a7 a8;go_loopw [5,6] (fun s t wr=>∃ (i n c:Nat) (o:Option Addr) (l:List Nd) (xs:List Value),t=.int .i64 i/\s=.slice o n c/\i<=l2/\l.length=n/\l++nN h.k h.nm i e (ps.drop i)=RES/\ji (nb+1) wr o c l xs/\ah W0 wr) (fun _ t _=>l2-(intOf t).toNat)
  case atStart=>exact ⟨0,0,0,none,[],[],rfl,rfl,Nat.zero_le _,rfl,by rw [To.drop_zero,aQ.out];rfl,BZ _ _,ah.refl _⟩
  case round =>
   obtain ⟨i,n,c,o,l,xs,rfl,rfl,hi,hln,hn,hrow,hq⟩:=hrel;have hnz:n<=200000:=by
    have:=congrArg List.length hn;simp only [List.length_append] at this;omega
   have wE:=hid hln;have HNN:=hid hn;have HR:=hid hrow;have HQ:=hid hq;obtain ⟨a0,a1,a2,a3,a4,a5,a6,a7,a8⟩:=HB.out wr hq;clear hn hrow hq hln
   by_cases hlt:i < l2
   ·have hlt':(i:Int) < l2:=by omega
    obtain ⟨b,off,hd,qs,p1,m1,d1,p2,m2,d2,rfl,hd1,hg,hRb,Q7,hs1,ht1⟩:=(HS.out).nth hlt;have hblt:=Q7.lt;have Zr:=aP.out.trans HQ.out;have KZ:=To.dK ps i hd qs hg;have hvq:=Ce ps i hd qs HAV.out hg;have Zt:Hid (∀ W,ah wr W->(qP W nb h o1 l1 c1 (some ⟨b,off,none⟩) l2 c2)/\(EC W b (off+i*9) hd p1 m1 d1 p2 m2 d2)):=fun W hq=>⟨HB.out W (HQ.out.trans hq),Q7.fr (Zr.trans hq) (fun h=>h)⟩
    have HKF:Hid (∀ W,Fr (fun k=>(Value.slice o n c).ownBlock=some k) wr W->(qP W nb h o1 l1 c1 (some ⟨b,off,none⟩) l2 c2)/\(EC W b (off+i*9) hd p1 m1 d1 p2 m2 d2)):=fun W hf=>⟨(HB.out wr HQ.out).fr hf (fun hk=>by have:=HR.out.2.2 _ (by rw [wE.out];exact hk);omega),(Q7.fr Zr (fun h=>h)).fr hf (fun hk=>by have:=HR.out.2.2 _ (by rw [wE.out];exact hk);have:=zX.out;omega)⟩
    have Jf:Hid (∀ W,ah wr W->Calls Tryz.prog 36 #[bI h o1 l1 c1 (some ⟨b,off,none⟩) l2 c2,.int .i64 (i:Nat),.slice no nn nc] W (LV T W (bZ h.k h.nm i e))):=fun W hq=>LW h o1 l1 c1 _ l2 c2 i T e no nn nc W (HN.out.stay (aP.out.trans (HQ.out.trans hq))) (by omega)
    have henv:(bZ h.k h.nm i e).length<=nn+1:=by have:=Jd.out;unfold bZ;split<;>simp<;>omega
    have Ap:Hid (∀ (W:World) (T:Nat->Prop) (no:Option Addr) (nc:Nat),jh T W no (bZ h.k h.nm i e).length (bZ h.k h.nm i e)->ah wr W->Calls Tryz.prog 16 #[bI hd p1 m1 d1 p2 m2 d2,.slice no (bZ h.k h.nm i e).length nc] W (EX W (bP (bZ h.k h.nm i e) hd qs))):=fun W T no nc hN hq=>IH.out i hd qs hg W R T p1 m1 d1 p2 m2 d2 no _ nc _ (ht1.stay (Zr.trans hq)) hN (by omega) hvq.1 hvq.2
    have HD:Hid ((l++bP (bZ h.k h.nm i e) hd qs)++nN h.k h.nm (i+1) e (ps.drop (i+1))=RES):=by
     have:=HNN.out;rw [hd1,rE] at this;show _=_;rw [<-this,List.append_assoc]
    have hql:=EZ (bZ h.k h.nm i e) hd qs;have HZ2:Hid (nb+1<=wr.heap.size):=by have:=HQ.out.size;have:=HZ.out;show _<=_;omega
    unfold bI at Jf Ap;generalize bZ h.k h.nm i e=E at *;generalize bP E hd qs=l' at *;have hbd:n+l'.length<=1000000:=by omega
    clear hd1 hg hs1 ht1 KZ hRb hvq Q7 henv hql;go_upto_region 7 with fail
    clear a0 a1 a2 a3 a4 a5 a6 a7 a8;have hqc:=ah.refl wr;go_region_held3 (fun W=>(W.cell? ⟨nb,0,none⟩=some (.int .i64 h.k)/\W.cell? ⟨nb,1,none⟩=some (.string h.nm)/\W.cell? ⟨nb,2,none⟩=some (.int .i64 h.n)/\W.cell? ⟨nb,3,none⟩=some (.int .i64 h.tk)/\W.cell? ⟨nb,4,none⟩=some (.int .i64 h.tn)/\W.cell? ⟨nb,5,none⟩=some (.slice o1 l1 c1)/\W.cell? ⟨nb,6,none⟩=some (.slice (some ⟨b,off,none⟩) l2 c2)/\W.cell? ⟨nb,7,none⟩=some (.int .i64 h.fr)/\W.cell? ⟨nb,8,none⟩=some (.int .i64 h.en))/\(W.cell? ⟨b,off+i*9,none⟩=some (.int .i64 hd.k)/\W.cell? ⟨b,off+i*9+1,none⟩=some (.string hd.nm)/\W.cell? ⟨b,off+i*9+2,none⟩=some (.int .i64 hd.n)/\W.cell? ⟨b,off+i*9+3,none⟩=some (.int .i64 hd.tk)/\W.cell? ⟨b,off+i*9+4,none⟩=some (.int .i64 hd.tn)/\W.cell? ⟨b,off+i*9+5,none⟩=some (.slice p1 m1 d1)/\W.cell? ⟨b,off+i*9+6,none⟩=some (.slice p2 m2 d2)/\W.cell? ⟨b,off+i*9+7,none⟩=some (.int .i64 hd.fr)/\W.cell? ⟨b,off+i*9+8,none⟩=some (.int .i64 hd.en)))
     (first | ((refine HKF.out _ ?_);exact dY) | ((refine Zt.out _ ?_);(repeat with_reducible first | exact hqc | exact ah.refl _ | refine jq ?_ | refine jr ?_)))
     (first
      | (go_at_call 36;(with_reducible refine Calls.mono (Jf.out _ ?hq) ?_);(case hq=>(repeat with_reducible first | exact hqc | exact ah.refl _ | refine jq ?_ | refine jr ?_));rintro e wx ⟨no2,nc2,rfl,hn1,gB⟩;(refine nT (w0:=wr) ?hq2 gB ?_);(case hq2=>(repeat with_reducible first | exact hqc | exact ah.refl _ | refine jq ?_ | refine jr ?_));intro hqc)
      | ((go_at_call 16;(with_reducible refine Calls.mono (Ap.out _ _ _ _ (hn1.stay ?hq3) ?hq) ?_));(case hq3=>(repeat with_reducible first | exact ah.refl _ | refine jq ?_ | refine jr ?_));(case hq=>(repeat with_reducible first | exact hqc | exact ah.refl _ | refine jq ?_ | refine jr ?_));rintro e wx ⟨fo,fc,ys,rfl,hrow,gB⟩;(refine nT (w0:=wr) ?hq2 gB ?_);(case hq2=>(repeat with_reducible first | exact hqc | exact ah.refl _ | refine jq ?_ | refine jr ?_));intro hqc)
      | ((refine PV _ rfl (.tmp 26) (.tmp 36) rfl o n c l xs rfl wE.out ?hown fo l'.length fc l' ys rfl rfl ?hrow2 (Wb:=wr) ?hch HZ2.out hbd ?_);(case hown=>((refine ji.stay HR.out ?_);(repeat with_reducible first | exact hqc | exact ah.refl _ | refine jq ?_ | refine jr ?_)));(case hrow2=>((refine ji.stay (Cb hrow (Nat.zero_le _)) ?_);(repeat with_reducible first | exact ah.refl _ | refine jq ?_ | refine jr ?_)));(case hch=>(repeat with_reducible first | exact hqc | exact ah.refl _ | refine jq ?_ | refine jr ?_));intro o3 c3 w3 hr3 hf3;(refine TJ (w0:=wr) ?acX hf3 ?_);(case acX=>(repeat with_reducible first | exact hqc | exact ah.refl _ | refine jq ?_ | refine jr ?_));intro dY)
      | fail)
    all_goals
     have HR3:=hid hr3;have dU:Hid (ah W0 w3):=Fr.trans' HQ.out dY (fun k hk hs=>by have:=HR.out.2.2 k (by rw [wE.out];exact hs);have:=HZ.out;omega);have tY:Hid ((l++l').length=n+l'.length):=by show _=_;rw [List.length_append,wE.out]
     clear hr3 hf3 dY hqc gB;go_wp2_with fail;go_roundw
     case rel=>exact ⟨i+1,n+l'.length,c3,o3,_,xs++ys,by go_num,rfl,by omega,tY.out,HD.out,HR3.out,dU.out⟩
     case measure=>simp [intOf];omega
   ·have hlt':¬ (i:Int) < l2:=by omega
    have HE:Hid (l=RES):=by
     have:=HNN.out;rw [To.drop_end ps i (by have:=HL.out;omega)] at this
     show _=_
     simpa [nN] using this
    go_wp2_with fail;go_ret;rw [<-HE.out];refine ⟨o,c,xs,by rw [wE.out];rfl,?_,aP.out.trans HQ.out⟩;rw [zX.out];exact Cb HR.out (by omega)
end Sc
end
section
open Go.RowKit Go.Shelf
namespace Sc
theorem uO {w:World} {base:Nat} {e:TypeId} {size:Nat} {o:Option Addr} {n c:Nat} {xs:List Value} (h:w.ownsRow base e size (.slice o n c) n xs):n<=c:=by
 rcases h.2 with ⟨h1,h0⟩ | ⟨g,cap,cur,he,_,_,hc,_⟩
 ·omega
 ·injection he with _ _ h3;omega
theorem E5 {ops : Array Oper} {op : Oper} {a : Act} {K : Act -> World -> Prop} {Q : Exit -> Act -> World -> Prop} {E : Prop} (W : World) (hg : op.guard = none) (s x : Operand)
    (hop:op.op=Op.call { callee:=Callee.builtin Builtin.append,args:=#[s,x],argTypes:=#[49,49] }) {T:Nat->Prop} {ao:Option Addr} {n:Nat} {e:List ByteArray} (hN:jh T W ao n e) (str:ByteArray) (H:Nat)
    (hs:a.eval s=.slice ao n n) (hx:a.eval x=.slice (some ⟨H,0,none⟩) 1 1) (hH:W.heap[H]?=some (.cells #[.string str] 9 (0,0))) (b1:n+1<=1000000) {Wb:World} (qp:ah Wb W)
    (hK:∀ g c w',jh (fun k=>Wb.heap.size<=k) w' (some ⟨g,0,none⟩) (n+1) (str::e)->n+1<=c->ah W w'->K (a.put op.dst (.slice (some ⟨g,0,none⟩) (n+1) c)) w') :
    if Region.wanted op (yielded ops a.tmps)=true then Oper.wp Tryz.prog op a W K Q else E:=by
 obtain ⟨i0,hi,hz0,hz1,hz2⟩:=info_parts nC.info;refine step_append_grows hg s x 49 hop 9 i0 (.string ⟨#[]⟩) 1 16 nC.under hi hz0 hz1 hz2 nC.cells nC.pos ao n n (e.reverse.map Value.string) hs
  (fun h=>by subst h;exact ⟨hN.none,hN.none⟩) (by simp [hN.1]) (IK hN) ⟨H,0,none⟩ 1 1 [.string str] hx rfl ?_ (by simp [Value.oneCell']) (by omega) (by unfold maxLen;omega) (by omega) ?_
 ·intro j u hu;rw [Addr.add_lit,cell_of_row W H (0+j) #[.string str] 9 (0,0) hH];simpa using hu
 ·intro v' w' hown hgr;obtain ⟨g,c,rfl,hb,_⟩:=hown.form (by omega);exact hK g c w' (jh.Gs hown (by rw [hN.1]) (by unfold maxLen;omega) (Nat.le_trans qp.size hb)) (uO hown) (Fr.grown hgr (fun k hk=>by cases hk))
theorem PX {T Dn S : Nat -> Prop} {W W1 w1 : World} {B : Nat} {v : Value} {f : To} {xs : List Value} {E : Nat -> Nat -> Prop} {h : Nd} {ps : To} {o1 : Option Addr} {l1 c1 : Nat} {o2 : Option Addr} {l2 c2 g c : Nat} (hr : iG T W B v f xs E) (hB : B <= W.heap.size)
    (hf0:Fr S W W1) (hS:∀ k,S k->¬ T k/\(∀ j,¬ E j k)/\v.ownBlock≠some k) (hs:aB T W1 o1 l1 h.tp) (ht:TO T W1 Dn o2 l2 ps) (hDn:∀ k,Dn k->W.heap.size<=k/\k < W1.heap.size)
    (ho:w1.ownsRow 0 29 9 (.slice (some ⟨g,0,none⟩) (f.length+1) c) (f.length+1) (xs++(cells9 h o1 l1 c1 o2 l2 c2).toList)) (hf:Fr (fun k=>v.ownBlock=some k) W1 w1) (hg:v.ownBlock=some g∨W1.heap.size<=g) :
    iG T w1 B (.slice (some ⟨g,0,none⟩) (f.length+1) c) (f.app (.cons h ps .nil)) (xs++(cells9 h o1 l1 c1 o2 l2 c2).toList) (fun j k=>(j < f.length/\E j k)∨(j=f.length/\Dn k)):=by
 have hz:=hf0.size;have hz1:=hf.size;have hvl:∀ k,v.ownBlock=some k->k < W.heap.size:=fun k hk=>(hr.own.lt k hk).2
 have hv:∀ k,v.ownBlock=some k->¬ T k:=fun k hk hh=>(hr.low k hk).2 hh
 have YW:∀ k,T k->¬ Dn k:=fun k hk hd=>by have:=hr.old k hk;have:=hDn k hd;omega
 refine ⟨by rw [To.bQ];exact ho,?_,?_,?_,?_,?_⟩
 ·intro k hk;simp [Value.ownBlock] at hk;subst hk;rcases hg with h | h
  ·exact ⟨(hr.low g h).1,hv g h⟩
  ·exact ⟨by omega,fun hh=>by have:=hr.old g hh;omega⟩
 ·refine o7.fr hf (fun k _ hk=>⟨hk,fun h=>hv k h hk⟩) _ _ _ (o7.snoc hs ht f E xs (o7.fr hf0 (fun k _ hk=>⟨hk,fun h=>(hS k h).1 hk⟩) f E xs hr.cells (fun j k hk h=>(hS k h).2.1 j hk))) ?_;rintro j k (⟨_,hk⟩ | ⟨_,hk⟩) h
  ·exact (hr.sep j k hk).2.2.1 h
  ·have:=hvl k h;have:=hDn k hk;omega
 ·rintro j k (⟨_,hk⟩ | ⟨_,hk⟩)
  ·have h1:=hr.sep j k hk;refine ⟨h1.1,by omega,fun h=>?_,h1.2.2.2⟩;simp [Value.ownBlock] at h;subst h;rcases hg with h | h
   ·exact h1.2.2.1 h
   ·omega
  ·have h1:=hDn k hk;refine ⟨by omega,by omega,fun h=>?_,fun hh=>YW k hh hk⟩;simp [Value.ownBlock] at h;subst h;rcases hg with h | h
   ·have:=hvl _ h;omega
   ·omega
 ·rintro i j k (⟨hi,h1⟩ | ⟨hi,h1⟩) (⟨hj,h2⟩ | ⟨hj,h2⟩)
  ·exact hr.one i j k h1 h2
  ·have:=hr.sep i k h1;have:=hDn k h2;omega
  ·have:=hr.sep j k h2;have:=hDn k h1;omega
  ·omega
 ·intro k hk;have:=hr.old k hk;omega
theorem Xj {T:Nat->Prop} {w:World} {B:Nat} {o:Option Addr} {len cap:Nat} {f:To} {xs:List Value} {E:Nat->Nat->Prop} (h:iG T w B (.slice o len cap) f xs E) (hl:len=f.length) (hm:len<=maxLen):TO T w (fun k=>(Value.slice o len cap).ownBlock=some k∨∃ j,E j k) o len f:=by
 refine ⟨hl,hm,fun h0=>?_⟩;rcases h.own.2 with ⟨_,h2⟩ | ⟨g,cap',cur,he,_,hg,_⟩
 ·omega
 ·injection he with h1 h2 h3
  subst h1;refine ⟨g,E,rfl,.inl rfl,⟨cur,hg⟩,fun j k hk=>⟨.inr ⟨j,hk⟩,fun e=>(h.sep j k hk).2.2.1 (by rw [e];rfl)⟩,h.one,o7.at f E xs 0 h.cells ?_⟩;intro j u hj;have:=h.own.cells (g:=g) rfl j u hj;simpa [Addr.add_lit] using this
section
variable {σ:Type}
def DoQ (mV:σ->Nd->List ByteArray->σ) (out:Nd->List ByteArray->Nd) (J:Nat->σ->(Nat->Prop)->World->Prop) (b:Nat) (s:σ) (D:Nat->Prop) (e:List ByteArray) (h:Nd) (o1:Option Addr) (l1 c1:Nat) (o2:Option Addr) (l2 c2:Nat) (A:World) (x:Ending) (W':World):Prop :=
 x=.returned (bI (out h e) o1 l1 c1 o2 l2 c2)/\∃ D',J b (mV s h e) D' W'/\Fr D A W'/\∀ k,D' k->D k∨A.heap.size<=k
structure DoW (F:Nat) (lb:Array Value) (R:Nat->Prop) (L0:Nat) (mV:σ->Nd->List ByteArray->σ) (out:Nd->List ByteArray->Nd) (J:Nat->σ->(Nat->Prop)->World->Prop):Prop where
 own:∀ b s D A,J b s D A->∀ k,D k->k < A.heap.size/\¬ R k
 big:∀ b s D A,J b s D A->L0<=A.heap.size
 weak:∀ b b' s D A,J b s D A->b'<=b->J b' s D A
 stay:∀ b s D A B,J b s D A->Fr (fun k=>L0<=k/\¬ D k) A B->J b s D B
 call:∀ (b:Nat) (s:σ) (D:Nat->Prop) (A:World) (T:Nat->Prop) (e:List ByteArray) (h:Nd) (o1:Option Addr) (l1 c1:Nat) (o2:Option Addr) (l2 c2:Nat) (no:Option Addr) (n c:Nat),J (b+1) s D A->jh T A no n e->n<=300000->aB R A o1 l1 h.tp->h.k=1 ->
  Calls Tryz.prog F (#[bI h o1 l1 c1 o2 l2 c2,.slice no n c]++lb) A (DoQ mV out J b s D e h o1 l1 c1 o2 l2 c2 A)
def WkQ (R:Nat->Prop) (mV:σ->Nd->List ByteArray->σ) (out:Nd->List ByteArray->Nd) (J:Nat->σ->(Nat->Prop)->World->Prop) (b:Nat) (s:σ) (D:Nat->Prop) (e:List ByteArray) (h:Nd) (ps:To) (o1:Option Addr) (l1 c1 l2:Nat) (W:World) (x:Ending) (W':World):Prop :=
 ∃ (o2:Option Addr) (c2:Nat) (D' E:Nat->Prop),x=.returned (bI (Aq mV out s e h ps).2.1 o1 l1 c1 o2 l2 c2)/\J b (Aq mV out s e h ps).1 D' W'/\TO R W' E o2 l2 (Aq mV out s e h ps).2.2/\(∀ k,E k->W.heap.size<=k/\k < W'.heap.size/\¬ D' k)/\Fr D W W'/\∀ k,D' k->D k∨W.heap.size<=k
def TWk (F:Nat) (lb:Array Value) (R:Nat->Prop) (mV:σ->Nd->List ByteArray->σ) (out:Nd->List ByteArray->Nd) (J:Nat->σ->(Nat->Prop)->World->Prop) (h:Nd) (ps:To):Prop :=
 ∀ (b:Nat) (s:σ) (D:Nat->Prop) (W:World) (T:Nat->Prop) (e:List ByteArray) (o1:Option Addr) (l1 c1:Nat) (o2:Option Addr) (l2 c2:Nat) (no:Option Addr) (n c:Nat),J (b+(ps.size+1)) s D W->jh T W no n e->n<=c->(∀ k,T k->¬ D k)->n+ps.size<=200000->aB R W o1 l1 h.tp->bD R W o2 l2 ps->vV h ps->Cc ps ->
  Calls Tryz.prog 92 #[bI h o1 l1 c1 o2 l2 c2,.slice no n c,.func (.func F) #[] lb] W (WkQ R mV out J b s D e h ps o1 l1 c1 l2 W)
theorem Xk (mV:σ->Nd->List ByteArray->σ) (out:Nd->List ByteArray->Nd) (s:σ) (e:List ByteArray) (h:Nd) (ps:To) (hk:h.k=1):Aq mV out s e h ps=(mV s h e,out h e,ps):=by unfold Aq;rw [if_pos hk]
theorem Zu (mV:σ->Nd->List ByteArray->σ) (out:Nd->List ByteArray->Nd) (s:σ) (e:List ByteArray) (h:Nd) (ps:To) (hk:¬ h.k=1):Aq mV out s e h ps=((wk mV out h.k h.nm 0 s e ps).1,h,(wk mV out h.k h.nm 0 s e ps).2):=by unfold Aq;rw [if_neg hk]
theorem TM (mV:σ->Nd->List ByteArray->σ) (out:Nd->List ByteArray->Nd) (hout:∀ h e,(out h e).tp=h.tp) (s:σ) (e:List ByteArray) (h:Nd) (ps:To):(Aq mV out s e h ps).2.1.tp=h.tp:=by
 unfold Aq;split
 ·exact hout _ _
 ·rfl
theorem ED (f:To) (h:Nd) (ps r:To):f.app (.cons h ps r)=(f.app (.cons h ps .nil)).app r:=by rw [To.mQ];rfl
end
end Sc
end
end Go.Proofs.YtcninopmelmajaaGreatDoor
