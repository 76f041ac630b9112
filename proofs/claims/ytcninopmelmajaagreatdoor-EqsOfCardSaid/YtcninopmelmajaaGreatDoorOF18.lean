/-
  Texts laid together (ScNm, ScIdx, TyAux, TyRefVars, TyRefVars2): laws and walks, with their conditions.
-/
import Derived.ArgAppend
import Derived.Test.YtcninopmelmajaaGreatDoorOF12
set_option maxHeartbeats 8000000
set_option maxRecDepth 1000000
namespace Go.Proofs.YtcninopmelmajaaGreatDoor
open Go.Lib (hid)
section
open Go.RowKit
namespace Sc
def jh (T:Nat->Prop) (w:World) (o:Option Addr) (n:Nat) (e:List ByteArray):Prop :=
 n=e.length/\n<=maxLen/\(0 < n->∃ b,o=some ⟨b,0,none⟩/\T b/\∀ i s,e.reverse[i]?=some s->w.cell? ⟨b,i,none⟩=some (.string s))
theorem jh.nil (T:Nat->Prop) (w:World) (o:Option Addr):jh T w o 0 []:=⟨rfl,Nat.zero_le _,fun h=>absurd h (Nat.lt_irrefl _)⟩
theorem jh.lt {T:Nat->Prop} {w:World} {b n:Nat} {e:List ByteArray} (h:jh T w (some ⟨b,0,none⟩) n e) (hn:0 < n):b < w.heap.size/\T b:=by
 obtain ⟨b',he,ht,hc⟩:=h.2.2 hn;injection he with he;injection he with he
 subst he;have hl:0 < e.reverse.length:=by simp;have:=h.1;omega
 exact ⟨World.block_lt_of_cell? w _ (hc 0 _ (List.getElem?_eq_getElem hl)),ht⟩
theorem jh.fr {T T' S:Nat->Prop} {w w':World} {o:Option Addr} {n:Nat} {e:List ByteArray} (h:jh T w o n e) (hf:Fr S w w') (hT:∀ k,k < w.heap.size->T k->T' k/\¬ S k):jh T' w' o n e:=by
 refine ⟨h.1,h.2.1,fun hn=>?_⟩;obtain ⟨b,he,ht,hc⟩:=h.2.2 hn;subst he;have hl:=(h.lt hn).1;obtain ⟨h1,h2⟩:=hT b hl ht;exact ⟨b,rfl,h1,fun i s hi=>(hf.bf hl h2).trans (hc i s hi)⟩
theorem jh.stay {T:Nat->Prop} {w w':World} {o:Option Addr} {n:Nat} {e:List ByteArray} (h:jh T w o n e) (hq:ah w w'):jh T w' o n e:=h.fr hq (fun _ _ hk=>⟨hk,fun h=>h⟩)
theorem jh.at {T:Nat->Prop} {w:World} {o:Option Addr} {n:Nat} {e:List ByteArray} (h:jh T w o n e) {i:Nat} {s:ByteArray} (hi:e[i]?=some s):∃ b,o=some ⟨b,0,none⟩/\w.cell? ⟨b,n-1-i,none⟩=some (.string s):=by
 have hl:=(List.getElem?_eq_some_iff.1 hi).1;obtain ⟨b,he,_,hc⟩:=h.2.2 (by have:=h.1;omega);refine ⟨b,he,hc _ s ?_⟩;rw [List.getElem?_reverse (by have:=h.1;omega),h.1];rw [<-hi];congr 1;omega
theorem jh.Gs {T:Nat->Prop} {w:World} {base g n c:Nat} {e:List ByteArray} {s:ByteArray} (ho:w.ownsRow base 9 1 (.slice (some ⟨g,0,none⟩) n c) n (e.reverse.map Value.string++[.string s])) (hn:n=e.length+1) (hm:n<=maxLen) (ht:T g):jh T w (some ⟨g,0,none⟩) n (s::e):=by
 refine ⟨by simpa using hn,hm,fun _=>⟨g,rfl,ht,fun i u hi=>?_⟩⟩;have hx:(e.reverse.map Value.string++[.string s])[i]?=some (.string u):=by
  have:e.reverse.map Value.string++[Value.string s]=((s::e).reverse).map Value.string:=by simp
  rw [this,List.getElem?_map,hi];rfl
 have:=ho.cells (g:=g) rfl i (.string u) hx;simpa [Addr.add_lit] using this
theorem nC:Elem Tryz.prog 49 9 (.string ⟨#[]⟩) 1 16 :=
 ⟨Tryz.underlying49,by kernel_rfl,by decide,by decide⟩
theorem jh.none {T:Nat->Prop} {w:World} {n:Nat} {e:List ByteArray} (h:jh T w none n e):n=0:=by
 rcases Nat.eq_zero_or_pos n with h0 | h0
 ·exact h0
 ·obtain ⟨b,he,_⟩:=h.2.2 h0;cases he
theorem IK {T:Nat->Prop} {w:World} {o:Option Addr} {n:Nat} {e:List ByteArray} (h:jh T w o n e):∀ b,o=some b->∀ j u,(e.reverse.map Value.string)[j]?=some u->w.cell? (b.add j)=some u:=by
 rintro b rfl j u hj;have hl:=(List.getElem?_eq_some_iff.1 hj).1;obtain ⟨b',he,_,hc⟩:=h.2.2 (by have:=h.1;simp at hl;omega);injection he with he
 subst he;rw [List.getElem?_map] at hj;obtain ⟨s,hs,rfl⟩:=Option.map_eq_some_iff.1 hj;rw [Addr.add_lit,Nat.zero_add];exact hc j s hs
theorem Nw {e:List ByteArray} {s:ByteArray} {i:Nat} (hn:s ∉ e.take i) (hi:e.length<=i):ix e s=-1:=SQ (by rwa [List.take_of_length_le hi] at hn)
theorem Ny {e:List ByteArray} {s a:ByteArray} {i:Nat} (hn:s ∉ e.take i) (hi:e[i]?=some a) (ha:a≠s):s ∉ e.take (i+1):=by
 rw [List.take_add_one,hi];simp only [Option.toList_some,List.mem_append,List.mem_singleton,not_or];exact ⟨hn,fun h=>ha h.symm⟩
theorem str_eq {a s:ByteArray}:(a.toList == s.toList)=true↔a=s:=by
 rw [beq_iff_eq];constructor
 ·intro h;rw [ByteArray.toList_eq,ByteArray.toList_eq] at h;exact ByteArray.ext (Array.toList_inj.1 h)
 ·intro h;rw [h]
end Sc
end
section
open Go.RowKit
namespace Sc
theorem Pg (k:Int) (i:Nat) (w:World):Calls Tryz.prog 114 #[.int .i64 k,.int .i64 (i:Nat)] w fun e w'=>e=.returned (.bool (mP k i))/\w=w':=by
 unfold mP;have e1:((i:Int) == 1)=(i == 1):=by rw [Bool.eq_iff_iff,beq_iff_eq,beq_iff_eq];omega
 generalize (i == 1)=r at *;cases h4:(k == 4)
 ·cases h7:(k == 7)
  ·cases h6:(k == 6)
   ·go_enter Tryz.func114,Tryz.ntmps114;go_wp2_with fail;go_ret;exact ⟨rfl,rfl⟩
   ·go_enter Tryz.func114,Tryz.ntmps114;go_wp2_with fail;go_ret;exact ⟨by simp,rfl⟩
  ·go_enter Tryz.func114,Tryz.ntmps114;go_wp2_with fail;go_ret;exact ⟨rfl,rfl⟩
 ·go_enter Tryz.func114,Tryz.ntmps114;go_wp2_with fail;go_ret;exact ⟨rfl,rfl⟩
theorem SS (o:Option Addr) (n c:Nat) (w:World) (hc:n<=c) (_:o=none->n=0):Calls Tryz.prog 115 #[.slice o n c] w fun e w'=>e=.returned (.slice o n n)/\w=w':=by
 go_enter Tryz.func115,Tryz.ntmps115;go_wp2_with fail;go_ret;exact ⟨rfl,rfl⟩
theorem EW (T:Nat->Prop) (e:List ByteArray) (s:ByteArray) (o:Option Addr) (n c:Nat) (w:World) (h:jh T w o n e) (hz:n<=1000000):Calls Tryz.prog 94 #[.slice o n c,.string s] w fun x w'=>x=.returned (.int .i64 (ix e s))/\w=w':=by
 have H:=hid h;have HN:=hid h.1;clear h;go_enter Tryz.func94,Tryz.ntmps94;go_wp2_with fail;go_loopw [8] (fun t wr=>∃ i:Nat,t=.int .i64 i/\i<=n/\s ∉ e.take i/\w=wr) (fun t _=>n-(intOf t).toNat)
 case atStart=>exact ⟨0,rfl,Nat.zero_le _,by simp,rfl⟩
 case round =>
  obtain ⟨i,rfl,hi,hns,rfl⟩:=hrel
  by_cases hlt:i < n
  ·have hlt':(i:Int) < n:=by omega
   obtain ⟨a,ha⟩:∃ a,e[i]?=some a:=⟨_,List.getElem?_eq_getElem (by have:=HN.out;omega)⟩;obtain ⟨b,rfl,c0⟩:=H.out.at ha;have hidx:((n:Int)-1-i)=((n-1-i:Nat):Int):=by omega
   have hb1:(0:Int)<=(n:Int)-1-i:=by omega
   have hb2:(n:Int)-1-i < n:=by omega
   have HNS:=hid hns;have HA:=hid ha;clear hns ha;cases hx:(a.toList == s.toList)
   ·go_wp2_with fail;go_roundw
    case rel=>exact ⟨i+1,by go_num,by omega,Ny HNS.out HA.out (fun e=>by rw [str_eq.2 e] at hx;cases hx),trivial⟩
    case measure=>simp [intOf];omega
   ·have HR:Hid (ix e s=i):=Nz (by rw [<-str_eq.1 hx];exact HA.out) HNS.out;go_wp2_with fail;go_ret;exact ⟨by first | (rw [HR.out];done) | (rw [HR.out];rfl),rfl⟩
  ·have hlt':¬ (i:Int) < n:=by omega
   have HR:Hid (ix e s=-1):=Nw hns (by have:=HN.out;omega);clear hns;go_wp2_with fail;go_ret;exact ⟨by first | (rw [HR.out];done) | (rw [HR.out];rfl),rfl⟩
theorem Gt (T:Nat->Prop) (e:List ByteArray) (s:ByteArray) (o:Option Addr) (n c:Nat) (w:World) (h:jh T w o n e) (hz:n<=1000000):Calls Tryz.prog 35 #[.slice o n c,.string s] w fun x w'=>x=.returned (.int .i64 (ix e s))/\w=w':=by
 have H:=hid h;have HN:=hid h.1;clear h;go_enter Tryz.func35,Tryz.ntmps35;go_wp2_with fail;go_loopw [5] (fun t wr=>∃ (i:Nat) (p:Int),t=.int .i64 p/\p=(n:Int)-1-i/\i<=n/\s ∉ e.take i/\w=wr) (fun t _=>(intOf t+1).toNat)
 case atStart=>exact ⟨0,(n:Int)-1,rfl,by omega,Nat.zero_le _,by simp,rfl⟩
 case round =>
  obtain ⟨i,p,rfl,hp,hi,hns,rfl⟩:=hrel
  by_cases hlt:i < n
  ·have hp0:(0:Int)<=p:=by omega
   have acI:p≥0:=hp0;have hpn:p < n:=by omega
   obtain ⟨q,hq⟩:∃ q:Nat,p=q:=⟨p.toNat,by omega⟩;subst hq;obtain ⟨a,ha⟩:∃ a,e[i]?=some a:=⟨_,List.getElem?_eq_getElem (by have:=HN.out;omega)⟩;obtain ⟨b,rfl,c0⟩:=H.out.at ha;rw [show n-1-i=q from by omega] at c0;have hidx:(n:Int)-1-q=i:=by omega
   have HNS:=hid hns;have HA:=hid ha;have HP:=hid hp;clear hns ha hp;cases hx:(a.toList == s.toList)
   ·go_wp2_with fail;go_roundw
    case rel=>exact ⟨i+1,(q:Int)-1,rfl,by have:=HP.out;omega,by omega,Ny HNS.out HA.out (fun e=>by rw [str_eq.2 e] at hx;cases hx),trivial⟩
    case measure=>simp [intOf]<;>omega
   ·have HR:Hid (ix e s=i):=Nz (by rw [<-str_eq.1 hx];exact HA.out) HNS.out;go_wp2_with fail;go_ret;exact ⟨by first | (rw [HR.out];done) | (rw [HR.out];rfl),rfl⟩
  ·have hp0:¬ (0:Int)<=p:=by omega
   have acI:¬ p≥0:=hp0;have HR:Hid (ix e s=-1):=Nw hns (by have:=HN.out;omega);clear hns hp;go_wp2_with fail;go_ret;exact ⟨by first | (rw [HR.out];done) | (rw [HR.out];rfl),rfl⟩
end Sc
end
section
open Go.RowKit
theorem acJ {W:World} {b:Nat} {k n:Int} {o:Option Addr} {len cap:Nat} {ps:Fo} (hb:W.heap[b]?=some (.cells #[.int .i64 k,.int .i64 n,.slice o len cap] 24 (0,0))) (h1:kT W o len ps):kT W (some ⟨b,0,none⟩) 1 (.cons k n ps .nil) :=
 ⟨rfl,by decide,fun _=>⟨_,0,rfl,by rw [cell_of_row _ _ _ _ _ (0,0) hb];rfl,by rw [cell_of_row _ _ _ _ _ (0,0) hb];rfl,⟨o,len,cap,by rw [cell_of_row _ _ _ _ _ (0,0) hb];rfl,h1.1,h1.2.1,h1.2.2⟩,trivial⟩⟩
theorem SV {w : World} {b : Nat} {a0 a1 a2 a3 a4 : Value} {t : TypeId} {G : Prop} (h : w.heap[b]? = some (.cells #[a0, a1, a2, a3, a4] t (0, 0)))
    (k:w.cell? ⟨b,0,none⟩=some a0->w.cell? ⟨b,1,none⟩=some a1->w.cell? ⟨b,2,none⟩=some a2->w.cell? ⟨b,3,none⟩=some a3->w.cell? ⟨b,4,none⟩=some a4 ->
     w.frozen? ⟨b,0,none⟩=false->w.frozen? ⟨b,1,none⟩=false->w.frozen? ⟨b,2,none⟩=false->w.frozen? ⟨b,3,none⟩=false->w.frozen? ⟨b,4,none⟩=false->w.heap[b]?=some (.cells #[a0,a1,a2,a3,a4] t (0,0))->G):G:=by
 refine k ?_ ?_ ?_ ?_ ?_ ?_ ?_ ?_ ?_ ?_ h
 all_goals first | (rw [cell_of_row _ _ _ _ _ (0,0) h];rfl) | simp [World.frozen?,h]
end
section
open Go.RowKit Go.Maps
theorem qN {ops : Array Oper} {o : Oper} {a : Act} {K : Act -> World -> Prop} {Q : Exit -> Act -> World -> Prop} {E : Prop} (W : World)
    (hg:o.guard=none) (s x:Operand) (hop:o.op=Op.call { callee:=Callee.builtin Builtin.append,args:=#[s,x],argTypes:=#[35,35] })
    (v:Value) (xs:List Int) (hs:a.eval s=v) (hown:W.ownsRow 0 3 1 v xs.length (ints xs)) (va:Option Addr) (ys:List Int) (m c:Nat) (hm:m=ys.length) (hx:a.eval x=.slice va m c) (hat:oW W va ys) (hb:xs.length+ys.length<=1000000) (hne:v≠.slice none 0 0)
    (hK:∀ v' w',w'.ownsRow 0 3 1 v' (xs++ys).length (ints (xs++ys))->Fr (fun k=>v.ownBlock=some k) W w'->(∀ g,v'.ownBlock=some g->v.ownBlock=some g∨g=W.heap.size)->v'≠.slice none 0 0->K (a.put o.dst v') w') :
    if Region.wanted o (yielded ops a.tmps)=true then Oper.wp Tryz.prog o a W K Q else E:=by
 subst hm;rw [if_pos (by unfold Region.wanted;rw [hg])]
 by_cases h0:ys=[]
 ·subst h0;have hr:=run_append_nothing W o.type v _ _ hown hne va c;unfold Oper.wp execOp;simp only [hop,resolve,invoke,builtin,Sem.run_bind,Sem.run_pure,Result.andThen_ok,List.map_toArray,List.map_cons,List.map_nil,hs,hx,List.length_nil,hr];exact hK v W (by simpa using hown) (Fr.refl _ _) (fun g h=>.inl h) hne
 ·obtain ⟨y,r,rfl⟩:=List.exists_cons_of_ne_nil h0;obtain ⟨b,off,rfl,_⟩:=hat 0 y rfl;obtain ⟨i0,hi,hz0,hz1,hz2⟩:=info_parts rC.info;refine wp_append_lies (P:=Tryz.prog) W s x 35 hop 0 3 i0 (.int .i64 0) 1 8 rC.under hi hz0 hz1 hz2 (by decide) (by decide) v xs.length (ints xs) hs hown ⟨b,off,none⟩ (y::r).length c (ints (y::r)) hx (by simp [ints]) ?_ (by unfold ints;intro u hu;obtain ⟨z,_,rfl⟩:=List.mem_map.1 hu;rfl) (by simp) (by unfold maxLen;omega) (by omega) (Nat.zero_le _) _ rfl ?_
  ·intro j u hj;unfold ints at hj;rw [List.getElem?_map] at hj;cases hz:(y::r)[j]? with
   | none=>rw [hz] at hj;cases hj
   | some z =>
    rw [hz] at hj;cases hj;obtain ⟨b',off',he,hc⟩:=hat j z hz;cases he;simpa [Addr.add_lit] using hc
  ·intro g cap w' ho hgr hg' _;refine hK _ w' ?_ (Fr.grown hgr (fun k hk=>hk)) ?_ (by simp)
   ·rw [List.length_append];unfold ints at *;rw [List.map_append];exact ho
   ·intro g2 h2;simp [Value.ownBlock] at h2;subst h2;exact hg'
theorem BK {W:World} {b:Nat} {n:Int} (h:W.heap[b]?=some (.cells #[.int .i64 n] 3 (0,0))):oW W (some ⟨b,0,none⟩) [n]:=by
 intro i x hx;cases i with
 | zero =>
  simp at hx;subst hx;exact ⟨b,0,rfl,by rw [cell_of_row _ _ _ _ _ (0,0) h];rfl⟩
 | succ i=>simp at hx
end
section
open Go.RowKit Go.Maps
def Yo (k n:Int) (ps:Fo):Prop:=∀ (w:World) (o:Option Addr) (len cap:Nat) (vo:Value) (L:List Int),kT w o len ps->vP w vo L->L.length+ps.size<=199000+999 ->
 Calls Tryz.prog 57 #[dZ k n o len cap,vo] w fun e w'=>∃ vo',e=.returned vo'/\vP w' vo' (Fo.vars L (.cons k n ps .nil))/\ah w w'
theorem IL (k n:Int) (ps:Fo):Yo k n ps:=by
 refine Fo.sG (T:=Yo) ?_ k n ps;intro k n ps ih w o len cap vo L hs hv hsz;obtain ⟨va,vc,rfl,hat⟩:=hv;have HS:=hid hs;have HL:=hid hs.1;have hmx:=hs.2.1;unfold maxLen at hmx;have IH:=hid ih;have Zd:=hid hat;obtain ⟨RES,hres⟩:∃ RES,RES=Fo.vars L (.cons k n ps .nil):=⟨_,rfl⟩;have aQ:Hid (RES=Fo.vars (dL L k n ps) ps):=hres;have oN:=hid (fun (W:World) (hq:ah w W)=>Ph va L.length vc L n W (hat.stay hq) rfl (by omega));obtain ⟨W0,hW0⟩:∃ W0,W0=w.alloc (.cells #[.int .i64 k,.int .i64 n,.slice o len cap] 24):=⟨_,rfl⟩;have aP:Hid (ah w W0):=by rw [hW0];exact ah.alloc _ _
 have yV:Hid (∀ W,ah W0 W->xw W w.heap.size (.int .i64 k) (.int .i64 n) (.slice o len cap)):=by
  intro W hq;rw [hW0] at hq;exact fF w k n o len cap _ W hq
 rw [<-hres];clear hs hat ih hres;unfold dZ;cases hk:(k == 1)
 ·have HST:Hid (dL L k n ps=L):=by show _=_;unfold dL;rw [hk];rfl
  go_enter Tryz.func57,Tryz.ntmps57;generalize hB:w.heap.size=B at *;go_upto_region 1 with fail
  rw [<-hW0];clear hW0;obtain ⟨a0,a1,a2⟩:=yV.out W0 (ah.refl _);go_wp2_with fail;go_loopw [1,5] (fun v t wr=>∃ (i:Nat) (l:List Int),t=.int .i64 i/\i<=len/\vP wr v l/\Fo.vars l (ps.drop i)=RES/\l.length+(ps.drop i).size<=200000/\ah W0 wr) (fun _ t _=>len-(intOf t).toNat)
  case atStart=>exact ⟨0,L,rfl,Nat.zero_le _,⟨va,vc,rfl,Zd.out.stay aP.out⟩,by rw [Fo.drop_zero,aQ.out,HST.out],by rw [Fo.drop_zero];omega,ah.refl _⟩
  case round =>
   obtain ⟨i,l,rfl,hi,hv,hr,hz,hq⟩:=hrel;have HV:=hid hv;have HR:=hid hr;have HZ:=hid hz;have HQ:=hid hq;obtain ⟨b0,b1,b2⟩:=yV.out wr hq;clear hv hr hz hq
   by_cases hlt:i < len
   ·have hlt':(i:Int) < len:=by omega
    obtain ⟨b,off,k1,n1,qs,o1,len1,cap1,rfl,hd,hg,e0,e1,e2,hs1⟩:=(HS.out.stay (aP.out.trans HQ.out)).nth hlt;have hzz:l.length+qs.size+1+(ps.drop (i+1)).size<=200000:=by have:=HZ.out;rw [hd] at this;simp only [Fo.size] at this;omega
    have HC:=hid (IH.out i k1 n1 qs hg wr o1 len1 cap1 u1 l hs1 HV.out (by omega));have HR2:Hid (Fo.vars (Fo.vars l (.cons k1 n1 qs .nil)) (ps.drop (i+1))=RES):=by
     show _=_
     rw [<-HR.out,hd];rfl
    have HZ2:Hid ((Fo.vars l (.cons k1 n1 qs .nil)).length+(ps.drop (i+1)).size<=200000):=by
     show _<=_
     have:=sU (.cons k1 n1 qs .nil) l;simp only [Fo.size] at this;omega
    unfold dZ at HC;generalize Fo.vars l (.cons k1 n1 qs .nil)=l2 at *;clear hd hg hs1 hzz;go_wp2_with fail;refine HC.out.mono ?_;rintro e w2 ⟨v2,rfl,hv2,hq2⟩;have RJ:=hid hv2;have eF:=hid (HQ.out.trans hq2);clear hv2 hq2;go_wp2_with fail;go_roundw
    case rel=>exact ⟨i+1,l2,by go_num,by omega,RJ.out,HR2.out,HZ2.out,eF.out⟩
    case measure=>simp [intOf];omega
   ·have hlt':¬ (i:Int) < len:=by omega
    have hfin:l=RES:=by have:=HR.out;rw [Fo.drop_end ps i (by have:=HL.out;omega)] at this;exact this
    have bH:=hid hfin;clear hfin;go_wp2_with fail;go_ret;exact ⟨_,rfl,bH.out ▸ HV.out,aP.out.trans HQ.out⟩
 ·cases hin:inB L n
  ·have HST:Hid (dL L k n ps=L++[n]):=by show _=_;unfold dL;rw [hk,hin];rfl
   rw [hin] at oN;go_enter Tryz.func57,Tryz.ntmps57;generalize hB:w.heap.size=B at *;go_upto_region 1 with fail
   rw [<-hW0];clear hW0;obtain ⟨a0,a1,a2⟩:=yV.out W0 (ah.refl _);go_wp2_with fail;refine (oN.out _ aP.out).mono ?_;rintro e W1' ⟨rfl,rfl⟩;have hq1:=ah.refl W0;have bU:=hid hq1;clear a0 a1 a2;go_upto_region 2 with fail
   obtain ⟨a0,a1,a2⟩:=yV.out W0 hq1;clear hq1;have HAT:=hid (Zd.out.stay (aP.out.trans bU.out));have ny:Hid (∀ W,ah W0 W->W.cell? ⟨B,1,none⟩=some (.int .i64 n)):=fun W hq=>(yV.out W (bU.out.trans hq)).2.1
   go_cut [1] (fun v wx=>vP wx v (L++[n])/\ah W0 wx)
   case first =>
    have hqc:=ah.refl W0;go_region_held3 (fun w'=>w'.cell? ⟨B,1,none⟩=some (.int .i64 n))
     (((refine ny.out _ ?_);(repeat with_reducible first | exact hqc | exact ah.refl _ | refine jq ?_ | refine jr ?_)))
     (first
      | ((refine qN _ rfl (.tmp 16) (.tmp 17) rfl (.slice (some ⟨W0.heap.size,0,none⟩) 0 0) [] rfl ?hown va L L.length vc rfl rfl ?hat ?hbd ?hne ?_);(case hown=>((refine gY ?_);(repeat (first | ((with_reducible refine iE _ _ _ _ ?hbe);(case hbe=>(simp;done))) | with_reducible refine au (ah.alloc _ _) ?_ | with_reducible refine eu ?_ | ((with_reducible refine aC hf3 ?uZ ?_);(case uZ=>(simp [Value.ownBlock];done))) | ((with_reducible refine aC hf3 ?uZ ?_);(case uZ=>(simp [Value.ownBlock];omega))) | fail))));(case hat=>(repeat (first | with_reducible exact HAT.out | with_reducible refine oW.stay ?_ (ah.alloc _ _) | with_reducible refine oW.stay ?_ (ah.drew _) | fail)));(case hbd=>(simp;omega));(case hne=>simp);intro v3 w3 ho3 hf3 hg3 hn3;(refine jZ (w0:=W0) ?hch hf3 ?hlo ?_);(case hch=>(repeat with_reducible first | exact hqc | exact ah.refl _ | refine jq ?_ | refine jr ?_));(case hlo=>(intro k hk;simp [Value.ownBlock] at hk;omega));intro hqc hw3)
      | ((refine qN _ rfl (.tmp 16) (.tmp 17) rfl (.slice (some ⟨W0.heap.size+1,0,none⟩) 0 0) [] rfl ?hown va L L.length vc rfl rfl ?hat ?hbd ?hne ?_);(case hown=>((refine gY ?_);(repeat (first | ((with_reducible refine iE _ _ _ _ ?hbe);(case hbe=>(simp;done))) | with_reducible refine au (ah.alloc _ _) ?_ | with_reducible refine eu ?_ | ((with_reducible refine aC hf3 ?uZ ?_);(case uZ=>(simp [Value.ownBlock];done))) | ((with_reducible refine aC hf3 ?uZ ?_);(case uZ=>(simp [Value.ownBlock];omega))) | fail))));(case hat=>(repeat (first | with_reducible exact HAT.out | with_reducible refine oW.stay ?_ (ah.alloc _ _) | with_reducible refine oW.stay ?_ (ah.drew _) | fail)));(case hbd=>(simp;omega));(case hne=>simp);intro v3 w3 ho3 hf3 hg3 hn3;(refine jZ (w0:=W0) ?hch hf3 ?hlo ?_);(case hch=>(repeat with_reducible first | exact hqc | exact ah.refl _ | refine jq ?_ | refine jr ?_));(case hlo=>(intro k hk;simp [Value.ownBlock] at hk;omega));intro hqc hw3)
      | ((refine qN _ rfl (.tmp 18) (.tmp 21) rfl v3 ([]++L) rfl ?hown (some ⟨W0.heap.size,0,none⟩) [n] 1 1 rfl rfl ?hat ?hbd hn3 ?_);(case hown=>(first | with_reducible exact ho3 | with_reducible exact ho3.alloc _ | fail));(case hat=>((refine BK ?_);(repeat (first | ((with_reducible refine iE _ _ _ _ ?hbe);(case hbe=>(simp;done))) | with_reducible refine au (ah.alloc _ _) ?_ | with_reducible refine eu ?_ | ((with_reducible refine aC hf3 ?uZ ?_);(case uZ=>(simp [Value.ownBlock];done))) | ((with_reducible refine aC hf3 ?uZ ?_);(case uZ=>(simp [Value.ownBlock];omega))) | fail))));(case hbd=>(simp;omega));intro v4 w4 mM hf4 hg4 hn4;(refine jZ (w0:=W0) ?hch hf4 ?hlo ?_);(case hch=>(repeat with_reducible first | exact hqc | exact ah.refl _ | refine jq ?_ | refine jr ?_));(case hlo=>(intro k hk;rcases hg3 k hk with h | h;(simp [Value.ownBlock] at h;omega);(simp at h;omega)));intro hqc hw4)
      | ((refine qN _ rfl (.tmp 18) (.tmp 21) rfl v3 ([]++L) rfl ?hown (some ⟨W0.heap.size+1,0,none⟩) [n] 1 1 rfl rfl ?hat ?hbd hn3 ?_);(case hown=>(first | with_reducible exact ho3 | with_reducible exact ho3.alloc _ | fail));(case hat=>((refine BK ?_);(repeat (first | ((with_reducible refine iE _ _ _ _ ?hbe);(case hbe=>(simp;done))) | with_reducible refine au (ah.alloc _ _) ?_ | with_reducible refine eu ?_ | ((with_reducible refine aC hf3 ?uZ ?_);(case uZ=>(simp [Value.ownBlock];done))) | ((with_reducible refine aC hf3 ?uZ ?_);(case uZ=>(simp [Value.ownBlock];omega))) | fail))));(case hbd=>(simp;omega));intro v4 w4 mM hf4 hg4 hn4;(refine jZ (w0:=W0) ?hch hf4 ?hlo ?_);(case hch=>(repeat with_reducible first | exact hqc | exact ah.refl _ | refine jq ?_ | refine jr ?_));(case hlo=>(intro k hk;rcases hg3 k hk with h | h;(simp [Value.ownBlock] at h;omega);(simp at h;omega)));intro hqc hw4)
      | ((refine qN _ rfl (.tmp 18) (.tmp 21) rfl v3 ([]++L) rfl ?hown (some ⟨w3.heap.size,0,none⟩) [n] 1 1 rfl rfl ?hat ?hbd hn3 ?_);(case hown=>(first | with_reducible exact ho3 | with_reducible exact ho3.alloc _ | fail));(case hat=>((refine BK ?_);(repeat (first | ((with_reducible refine iE _ _ _ _ ?hbe);(case hbe=>(simp;done))) | with_reducible refine au (ah.alloc _ _) ?_ | with_reducible refine eu ?_ | ((with_reducible refine aC hf3 ?uZ ?_);(case uZ=>(simp [Value.ownBlock];done))) | ((with_reducible refine aC hf3 ?uZ ?_);(case uZ=>(simp [Value.ownBlock];omega))) | fail))));(case hbd=>(simp;omega));intro v4 w4 mM hf4 hg4 hn4;(refine jZ (w0:=W0) ?hch hf4 ?hlo ?_);(case hch=>(repeat with_reducible first | exact hqc | exact ah.refl _ | refine jq ?_ | refine jr ?_));(case hlo=>(intro k hk;rcases hg3 k hk with h | h;(simp [Value.ownBlock] at h;omega);(simp at h;omega)));intro hqc hw4)
      | fail)
    all_goals
     go_wp2_with fail;go_meet;exact ⟨by have:=KE mM;simpa using this,hqc⟩
   case rest =>
    obtain ⟨hvn,xu⟩:=hcut;have HVN:=hid hvn;have HQN:=hid (bU.out.trans xu);clear a0 a1 a2 hvn xu;go_wp2_with fail;go_loopw [1,5] (fun v t wr=>∃ (i:Nat) (l:List Int),t=.int .i64 i/\i<=len/\vP wr v l/\Fo.vars l (ps.drop i)=RES/\l.length+(ps.drop i).size<=200000/\ah W0 wr) (fun _ t _=>len-(intOf t).toNat)
    case atStart=>exact ⟨0,L++[n],rfl,Nat.zero_le _,HVN.out,by rw [Fo.drop_zero,aQ.out,HST.out],by rw [Fo.drop_zero];simp;omega,HQN.out⟩
    case round =>
     obtain ⟨i,l,rfl,hi,hv,hr,hz,hq⟩:=hrel;have HV:=hid hv;have HR:=hid hr;have HZ:=hid hz;have HQ:=hid hq;obtain ⟨b0,b1,b2⟩:=yV.out wr hq;clear hv hr hz hq
     by_cases hlt:i < len
     ·have hlt':(i:Int) < len:=by omega
      obtain ⟨b,off,k1,n1,qs,o1,len1,cap1,rfl,hd,hg,e0,e1,e2,hs1⟩:=(HS.out.stay (aP.out.trans HQ.out)).nth hlt;have hzz:l.length+qs.size+1+(ps.drop (i+1)).size<=200000:=by have:=HZ.out;rw [hd] at this;simp only [Fo.size] at this;omega
      have HC:=hid (IH.out i k1 n1 qs hg wr o1 len1 cap1 u1 l hs1 HV.out (by omega));have HR2:Hid (Fo.vars (Fo.vars l (.cons k1 n1 qs .nil)) (ps.drop (i+1))=RES):=by
       show _=_
       rw [<-HR.out,hd];rfl
      have HZ2:Hid ((Fo.vars l (.cons k1 n1 qs .nil)).length+(ps.drop (i+1)).size<=200000):=by
       show _<=_
       have:=sU (.cons k1 n1 qs .nil) l;simp only [Fo.size] at this;omega
      unfold dZ at HC;generalize Fo.vars l (.cons k1 n1 qs .nil)=l2 at *;clear hd hg hs1 hzz;go_wp2_with fail;refine HC.out.mono ?_;rintro e w2 ⟨v2,rfl,hv2,hq2⟩;have RJ:=hid hv2;have eF:=hid (HQ.out.trans hq2);clear hv2 hq2;go_wp2_with fail;go_roundw
      case rel=>exact ⟨i+1,l2,by go_num,by omega,RJ.out,HR2.out,HZ2.out,eF.out⟩
      case measure=>simp [intOf];omega
     ·have hlt':¬ (i:Int) < len:=by omega
      have hfin:l=RES:=by have:=HR.out;rw [Fo.drop_end ps i (by have:=HL.out;omega)] at this;exact this
      have bH:=hid hfin;clear hfin;go_wp2_with fail;go_ret;exact ⟨_,rfl,bH.out ▸ HV.out,aP.out.trans HQ.out⟩
  ·have HST:Hid (dL L k n ps=L):=by show _=_;unfold dL;rw [hk,hin];rfl
   rw [hin] at oN;go_enter Tryz.func57,Tryz.ntmps57;generalize hB:w.heap.size=B at *;go_upto_region 1 with fail
   rw [<-hW0];clear hW0;obtain ⟨a0,a1,a2⟩:=yV.out W0 (ah.refl _);go_wp2_with fail;refine (oN.out _ aP.out).mono ?_;rintro e W1' ⟨rfl,rfl⟩;have hq1:=ah.refl W0;have bU:=hid hq1;clear a0 a1 a2 hq1;go_wp2_with fail;go_loopw [1,5] (fun v t wr=>∃ (i:Nat) (l:List Int),t=.int .i64 i/\i<=len/\vP wr v l/\Fo.vars l (ps.drop i)=RES/\l.length+(ps.drop i).size<=200000/\ah W0 wr) (fun _ t _=>len-(intOf t).toNat)
   case atStart=>exact ⟨0,L,rfl,Nat.zero_le _,⟨va,vc,rfl,Zd.out.stay (aP.out.trans bU.out)⟩,by rw [Fo.drop_zero,aQ.out,HST.out],by rw [Fo.drop_zero];omega,bU.out⟩
   case round =>
    obtain ⟨i,l,rfl,hi,hv,hr,hz,hq⟩:=hrel;have HV:=hid hv;have HR:=hid hr;have HZ:=hid hz;have HQ:=hid hq;obtain ⟨b0,b1,b2⟩:=yV.out wr hq;clear hv hr hz hq
    by_cases hlt:i < len
    ·have hlt':(i:Int) < len:=by omega
     obtain ⟨b,off,k1,n1,qs,o1,len1,cap1,rfl,hd,hg,e0,e1,e2,hs1⟩:=(HS.out.stay (aP.out.trans HQ.out)).nth hlt;have hzz:l.length+qs.size+1+(ps.drop (i+1)).size<=200000:=by have:=HZ.out;rw [hd] at this;simp only [Fo.size] at this;omega
     have HC:=hid (IH.out i k1 n1 qs hg wr o1 len1 cap1 u1 l hs1 HV.out (by omega));have HR2:Hid (Fo.vars (Fo.vars l (.cons k1 n1 qs .nil)) (ps.drop (i+1))=RES):=by
      show _=_
      rw [<-HR.out,hd];rfl
     have HZ2:Hid ((Fo.vars l (.cons k1 n1 qs .nil)).length+(ps.drop (i+1)).size<=200000):=by
      show _<=_
      have:=sU (.cons k1 n1 qs .nil) l;simp only [Fo.size] at this;omega
     unfold dZ at HC;generalize Fo.vars l (.cons k1 n1 qs .nil)=l2 at *;clear hd hg hs1 hzz;go_wp2_with fail;refine HC.out.mono ?_;rintro e w2 ⟨v2,rfl,hv2,hq2⟩;have RJ:=hid hv2;have eF:=hid (HQ.out.trans hq2);clear hv2 hq2;go_wp2_with fail;go_roundw
     case rel=>exact ⟨i+1,l2,by go_num,by omega,RJ.out,HR2.out,HZ2.out,eF.out⟩
     case measure=>simp [intOf];omega
    ·have hlt':¬ (i:Int) < len:=by omega
     have hfin:l=RES:=by have:=HR.out;rw [Fo.drop_end ps i (by have:=HL.out;omega)] at this;exact this
     have bH:=hid hfin;clear hfin;go_wp2_with fail;go_ret;exact ⟨_,rfl,bH.out ▸ HV.out,aP.out.trans HQ.out⟩
end
end Go.Proofs.YtcninopmelmajaaGreatDoor
