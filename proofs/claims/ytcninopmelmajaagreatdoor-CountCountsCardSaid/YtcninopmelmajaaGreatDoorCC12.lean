/-
  Texts laid together (TeRoom, Law, TyOpen, TeOpen, ScResLaw0, TyInts, CnNames0, CnRUs): laws and walks, with their conditions.
-/
import Derived.ProofKit
import Derived.OpenShut
import Derived.Deep.Slices
import Derived.Deep.RegionWith
import Derived.Test.YtcninopmelmajaaGreatDoorRows
import Derived.Test.YtcninopmelmajaaGreatDoorCC11
set_option maxHeartbeats 8000000
set_option maxRecDepth 1000000
namespace Go.Proofs.YtcninopmelmajaaGreatDoor
open Go.Lib (hid)
section
open Go.RowKit
def yA (h:Nd):Bool:=decide (60 < h.nm.size) || yB h.tp
namespace To
def room:Nat->Int->To->Int
 | _,m,nil=>m
 | d, m, cons h ps r => if m < 0 then m else
     match d with
     | 0=>room 0 (-1) r
     | d+1=>room (d+1) (if yA h then -1 else room d (m - 1) ps) r
theorem fD:∀ (f:To) (d:Nat) (m:Int),m < 0->room d m f=m
 | nil,_,_,_=>by unfold room;rfl
 | cons h ps r,d,m,e=>by unfold room;rw [if_pos e]
theorem room_le:∀ (f:To) (d:Nat) (m:Int),0<=m->room d m f<=m/\-1<=room d m f
 | nil,_,_,_=>by unfold room;omega
 | cons h ps r,d,m,e=>by
  unfold room
  rw [if_neg (by omega)]
  cases d with
  | zero=>simp only;rw [fD r 0 (-1) (by omega)];omega
  | succ d =>
   simp only
   cases hb:yA h
   ·simp only [Bool.false_eq_true,if_false]
    by_cases hm:0<=m - 1
    ·have h1:=room_le ps d (m - 1) hm
     by_cases h0:0<=room d (m - 1) ps
     ·have h2:=room_le r (d+1) _ h0;omega
     ·rw [fD r _ _ (by omega)];omega
    ·rw [fD ps _ _ (by omega),fD r _ _ (by omega)];omega
   ·simp only [if_true]
    rw [fD r _ _ (by omega)];omega
theorem AY:∀ (f:To) (d:Nat) (m:Int),0<=room d m f->room d m f=m - f.size/\0<=m/\f.depth<=d/\allT (fun h=>yA h=false) f
 | nil,_,m,h=>by unfold room at h ⊢;simp [size,depth,allT];exact h
 | cons h ps r,d,m,e=>by
  unfold room at e ⊢
  by_cases hm:m < 0
  ·rw [if_pos hm] at e;omega
  ·rw [if_neg hm] at e ⊢
   cases d with
   | zero=>simp only at e;rw [fD r 0 (-1) (by omega)] at e;omega
   | succ d =>
    simp only at e ⊢
    obtain ⟨h1,h2,h3,h4⟩:=AY r (d+1) _ e
    cases hb:yA h
    ·rw [hb] at h1 h2 e
     simp only [Bool.false_eq_true,if_false] at h1 h2 e ⊢
     obtain ⟨g1,g2,g3,g4⟩:=AY ps d (m - 1) h2
     rw [h1,g1]
     refine ⟨by simp only [size];omega,by omega,by simp only [depth];omega,hb,g4,h4⟩
    ·rw [hb] at h2;simp at h2
end To
def fU (d:Nat) (m:Int) (h:Nd) (ps:To):Int:=if d=0 then -1 else if yA h then -1 else To.room (d - 1) (m - 1) ps
theorem Om (d:Nat) (m:Int) (h:Nd) (ps r:To) (hm:0<=m):To.room d m (.cons h ps r)=To.room d (fU d m h ps) r:=by
 conv=>lhs;unfold To.room
 rw [if_neg (by omega)]
 unfold fU
 cases d with
 | zero=>rfl
 | succ d=>rfl
theorem J6 (d:Nat) (m:Int) (h:Nd) (ps:To) (hm:0<=m):-1<=fU d m h ps/\fU d m h ps<=m:=by
 unfold fU
 split
 ·omega
 ·split
  ·omega
  ·by_cases h1:0<=m - 1
   ·have:=To.room_le ps (d - 1) (m - 1) h1;omega
   ·rw [To.fD _ _ _ (by omega)];omega
def Q9 (h:Nd) (ps:To):Prop:=∀ (w:World) (R:Nat->Prop) (o1:Option Addr) (l1 c1:Nat) (o2:Option Addr) (l2 c2:Nat) (d:Nat) (m:Int) (di:Int),di=d->aC R w o1 l1 h.tp->aY R w o2 l2 ps->h.nm.size<=9223372036854775807->allT (fun h=>h.nm.size<=9223372036854775807) ps->0<=m->m<=100000->d<=100000 ->
 Calls Tryz.prog 46 #[bC h o1 l1 c1 o2 l2 c2,.int .i64 m,.int .i64 di] w fun e w'=>e=.returned (.int .i64 (fU d m h ps))/\ah w w'
theorem Oo (h:Nd) (ps:To):Q9 h ps:=by
 refine To.qE (T:=Q9) ?_ h ps
 intro h ps ih w R o1 l1 c1 o2 l2 c2 d m di ed hs1 hs hnm Rf hm0 hm1 hd1
 subst ed
 have HG:=hid (fun (W:World) (hq:ah w W)=>Oq h.tk h.tn h.tp W o1 l1 c1 (hs1.slc.stay hq))
 have HS:=hid hs
 have IH:=hid ih
 have HL:=hid hs.1
 have yw:=hid Rf
 have hmx:=hs.2.1
 unfold maxLen at hmx
 unfold kL at HG
 clear hs ih Rf
 by_cases hd0:d=0
 ·subst hd0
  unfold bC fU
  go_enter Tryz.func46,Tryz.ntmps46
  go_wp2_with fail
  go_ret
  exact ⟨rfl,ah.alloc _ _⟩
 ·obtain ⟨D,hD⟩:∃ D,D=d - 1:=⟨_,rfl⟩
  have acs:((d:Int) == 0)=false:=by simp;omega
  have hdD:d=D+1:=by omega
  by_cases h60:60 < h.nm.size
  ·have acu:(60:Int) < (h.nm.size:Int):=by omega
   have HF:Hid (fU d m h ps=-1):=by show _=_;unfold fU yA;rw [if_neg hd0];simp [h60]
   rw [HF.out]
   clear hd0 hD
   unfold bC
   go_enter Tryz.func46,Tryz.ntmps46
   go_wp2_with fail
   go_ret
   exact ⟨rfl,ah.alloc _ _⟩
  ·have acu:¬ (60:Int) < (h.nm.size:Int):=by omega
   cases hg:yB h.tp
   ·obtain ⟨res,hres⟩:∃ res,res=To.room D (m - 1) ps:=⟨_,rfl⟩
    have aW:=hid hres
    have HF:Hid (fU d m h ps=res):=by show _=_;unfold fU yA;rw [if_neg hd0,hres,hg,<-hD];simp [h60]
    rw [HF.out]
    rw [hg] at HG
    have Ot:=hid hdD
    have hD1:D<=100000:=by omega
    have acv:1<=d:=by omega
    clear hres hd0 hD hdD hg h60
    obtain ⟨W0,hW0⟩:∃ W0,W0=w.alloc (.cells (cells9 h o1 l1 c1 o2 l2 c2) 29):=⟨_,rfl⟩
    have HB:Hid (∀ W,ah W0 W->W.cell? ⟨w.heap.size,6,none⟩=some (.slice o2 l2 c2)):=by
     intro W hq;rw [hW0] at hq;exact (FQ w h o1 l1 c1 o2 l2 c2 _ W hq).2.2.2.2.2.2.1
    have aK:Hid (ah w W0):=by rw [hW0];exact ah.alloc _ _
    unfold bC
    go_enter Tryz.func46,Tryz.ntmps46
    go_wp2_with fail
    change Calls _ _ _ (w.alloc (.cells (cells9 h o1 l1 c1 o2 l2 c2) 29)) _
    rw [<-hW0]
    refine (HG.out _ aK.out).mono ?_;rintro e w1 ⟨rfl,hq1⟩
    have bI:=hid hq1
    clear hW0 hq1
    go_wp2_with fail
    generalize w.heap.size=nb at *
    go_loopw [1,7] (fun s t wr=>∃ (i:Nat) (x:Int),t=.int .i64 i/\s=.int .i64 x/\i<=l2/\-1<=x/\x<=100000/\res=To.room D x (ps.drop i)/\ah W0 wr) (fun _ t _=>l2 - (intOf t).toNat)
    case atStart=>exact ⟨0,m - 1,rfl,rfl,Nat.zero_le _,by omega,by omega,by rw [To.drop_zero];exact aW.out,bI.out⟩
    case round =>
     obtain ⟨i,x,rfl,rfl,hi,hx0,hx1,hr,hq⟩:=hrel
     have HR:=hid hr
     have HQ:=hid hq
     have g2:=HB.out wr hq
     clear hr hq
     by_cases hlt:i < l2
     ·have hlt':(i:Int) < l2:=by omega
      by_cases hx:0<=x
      ·obtain ⟨b,off,hd,qs,p1,m1,d1,p2,m2,d2,rfl,hdr,hg,hRb,⟨e0,e1,e2,e3,e4,e5,e6,e7,e8⟩,hsl,ht1⟩:=(HS.out.stay (aK.out.trans HQ.out)).nth hlt
       have hna:=wI ps i hd qs yw.out hg
       have HC:=hid (IH.out i hd qs hg wr R p1 m1 d1 p2 m2 d2 D x ((d:Int) - 1) (by have:=Ot.out;omega) hsl ht1 hna.1 hna.2 hx hx1 hD1)
       obtain ⟨y,hy⟩:∃ y,y=fU D x hd qs:=⟨_,rfl⟩
       have hyb:-1<=y/\y<=100000:=by have:=J6 D x hd qs hx;omega
       have HY:Hid (res=To.room D y (ps.drop (i+1))):=by
        show _=_
        rw [HR.out,hdr,hy,Om _ _ _ _ _ hx]
       rw [<-hy] at HC
       unfold bC at HC
       clear hdr hg hsl ht1 hy hRb hna
       go_wp2_with fail
       refine HC.out.mono ?_;rintro e w1 ⟨rfl,hq1⟩
       have bI:=hid (HQ.out.trans hq1)
       clear hq1
       go_wp2_with fail
       go_roundw
       case rel=>exact ⟨i+1,y,by go_num,rfl,by omega,hyb.1,hyb.2,HY.out,bI.out⟩
       case measure=>simp [intOf];omega
      ·have hx':x < 0:=by omega
       have HY:Hid (res=x):=by show _=_;rw [HR.out];exact To.fD _ _ _ hx'
       go_wp2_with fail
       go_ret
       exact ⟨by rw [HY.out];rfl,aK.out.trans HQ.out⟩
     ·have hlt':¬ (i:Int) < l2:=by omega
      have HY:Hid (res=x):=by
       show _=_
       rw [HR.out,To.drop_end ps i (by have:=HL.out;omega)]
       unfold To.room;rfl
      go_wp2_with fail
      go_ret
      exact ⟨by rw [HY.out];rfl,aK.out.trans HQ.out⟩
   ·have HF:Hid (fU d m h ps=-1):=by show _=_;unfold fU yA;rw [if_neg hd0,hg];simp
    rw [HF.out]
    rw [hg] at HG
    clear hd0 hD hg h60
    unfold bC
    go_enter Tryz.func46,Tryz.ntmps46
    go_wp2_with fail
    refine (HG.out _ (ah.alloc _ _)).mono ?_;rintro e w1 ⟨rfl,hq1⟩
    go_wp2_with fail
    go_ret
    exact ⟨rfl,(ah.alloc _ _).trans hq1⟩
def jW (h:Nd) (ps:To):Bool:=decide (fU 60 200 h ps < 0)
theorem J7 {h:Nd} {ps:To} (e:jW h ps=false):yA h=false/\allT (fun h=>yA h=false) ps/\ps.size+1<=200/\ps.depth+1<=60:=by
 unfold jW at e
 have h0:0<=fU 60 200 h ps:=by simpa using e
 unfold fU at h0
 rw [if_neg (by omega)] at h0
 cases hb:yA h
 ·rw [hb] at h0
  simp only [Bool.false_eq_true,if_false] at h0
  obtain ⟨h1,h2,h3,h4⟩:=To.AY ps _ _ h0
  exact ⟨rfl,h4,by omega,by omega⟩
 ·rw [hb] at h0;simp at h0
theorem Me {h:Nd} (e:yA h=false):h.nm.size<=60/\h.tp.size+1<=300:=by
 unfold yA at e
 rw [Bool.or_eq_false_iff] at e
 exact ⟨by simpa using e.1,J8 e.2⟩
theorem Hw (h : Nd) (ps : To) (w : World) (R : Nat -> Prop) (o1 : Option Addr) (l1 c1 : Nat) (o2 : Option Addr) (l2 c2 : Nat) (hs1 : aC R w o1 l1 h.tp) (hs : aY R w o2 l2 ps) (hnm : h.nm.size <= 9223372036854775807) (Rf : allT (fun h => h.nm.size <= 9223372036854775807) ps) :
    Calls Tryz.prog 24 #[bC h o1 l1 c1 o2 l2 c2] w fun e w'=>e=.returned (.bool (jW h ps))/\ah w w':=by
 have HC:=hid (fun (W:World) (hq:ah w W)=>Oo h ps W R o1 l1 c1 o2 l2 c2 60 200 60 rfl (hs1.stay hq) (hs.stay hq) hnm Rf (by omega) (by omega) (by omega))
 unfold jW
 generalize fU 60 200 h ps=r at *
 clear hs1 hs hnm Rf
 unfold bC at *
 go_enter Tryz.func24,Tryz.ntmps24
 go_wp2_with fail
 refine (HC.out _ (ah.alloc _ _)).mono ?_;rintro e w1 ⟨rfl,hq⟩
 go_wp2_with fail
 go_ret
 exact ⟨rfl,(ah.alloc _ _).trans hq⟩
end
section
open Go.ChangeShapes Go.WideShapes Go.ChangeAt Go.RowKit
theorem own:ownKnob Tryz.prog.godebug=none:=by kernel_rfl
def yC (P:Program) (ts:List TypeId):Bool:=ts.all fun t=>P.readableRec t && decide (t < P.types.size)
theorem vk {H : Type} {enc : TypeId × Value -> H} {P : Program} (hl : laidOutB P = true) {W W' : World} (hb : Below W.heap.size W W') :
    ∀ (ts:List TypeId) (vs:List Value) (ds:List (DataW H)) (ps:List MemPlace),yC P ts=true->DataW.TrodAll enc P W 0 (fun _=>true) true ts vs ds ps->(∀ x∈ps,x.block < W.heap.size) ->
     DataW.TrodAll enc P W' 0 (fun b=>decide (b < W.heap.size)) true ts vs ds ps
 | [],vs,ds,ps,_,h,_=>by
  obtain ⟨rfl,rfl,rfl⟩:=trodAll_nil h
  exact trodAll_mk0
 | t::ts,vs,ds,ps,hr,h,hlt=>by
  obtain ⟨v,vs',d,ds',p,q,rfl,rfl,rfl,h1,h2⟩:=trodAll_cons h
  simp only [yC,List.all_cons,Bool.and_eq_true,decide_eq_true_eq] at hr
  exact trodAll_cons_mk (Below.trod hl hr.1.1 hr.1.2 h1 hb (fun x hx=>hlt x (List.mem_append_left _ hx)))
   (vk hl hb ts vs' ds' q hr.2 h2 (fun x hx=>hlt x (List.mem_append_right _ hx)))
theorem Rh {H : Type} {enc : TypeId × Value -> H} {f : Func} {s : ChangeSpec} {W W' : World} {args : Array Value} {ds gs : List (DataW H)} {before : List MemPlace}
    (hW:DataW.Whole enc Tryz.prog f.params.toList s.vars false W args.toList ds gs before) (hv:s.vars=[]) (hs:(s.fn H (ds++gs)).results=[.lit (.bool true)]) (hs2:(s.fn H (ds++gs)).args=ds) (hs3:(s.fn H (ds++gs)).vars=[])
    (hres:f.resultTypes=#[4]) (hread:yC Tryz.prog f.params.toList=true) (hb:Below W.heap.size W W') :
    s.post enc Tryz.prog f false true false false W args (.bool true) W':=by
 have hlt:=hW.lt
 have hW':=hW
 obtain ⟨p,q,hA,hV,rfl,hfz,hnd⟩:=hW
 refine ⟨ds,gs,_,[],p,[],hW',?_,?_,?_,hb.frame _,fun h=>by cases h⟩
 ·rw [hs,hres];exact trodAll_cons_mk (shut_bool Tryz.underlying4 _) trodAll_mk0
 ·rw [hs2];exact vk (by kernel_rfl) hb _ _ _ _ hread hA (fun x hx=>by have:=hlt x (List.mem_append_left _ hx);simpa using this)
 ·rw [hs3,hv];exact rfl
end
section
open Go.ChangeShapes Go.WideShapes Go.ChangeAt Go.RowKit
theorem Es {w:World} {a:Addr} {v:Value} (h:w.cell? (a.add 0)=some v):∃ b off,a=⟨b,off,none⟩:=by
 obtain ⟨b,off,s⟩:=a
 cases s with
 | none=>exact ⟨b,off,rfl⟩
 | some s =>
  unfold World.cell? Addr.add at h
  simp only [if_true] at h
  split at h<;>simp_all
section
variable {H:Type} {enc:TypeId × Value->H} {P:Program} {w:World} {base:Nat} {spare:Nat->Bool} {held:Bool}
theorem zC {b off len : Nat} (one : ∀ i, i < len -> ∃ k n o l c ps, w.cell? ⟨b, off + i * 3, none⟩ = some (.int .i64 k) /\ w.cell? ⟨b, off + i * 3 + 1, none⟩ = some (.int .i64 n) /\ w.cell? ⟨b, off + i * 3 + 2, none⟩ = some (.slice o l c) /\ qm w o l ps /\ sF n /\ VD ps) :
    ∀ m s,s+m=len->∃ f:Fo,f.length=m/\At w b (off+s * 3) f/\VD f
 | 0,s,_=>⟨.nil,rfl,trivial,trivial⟩
 | m+1,s,h=>by
  obtain ⟨k,n,o,l,c,ps,h1,h2,h3,hs,hw,hwp⟩:=one s (by omega)
  obtain ⟨r,hr,ha,hwr⟩:=zC one m (s+1) (by omega)
  refine ⟨.cons k n ps r,by simp [Fo.length,hr],⟨h1,h2,⟨o,l,c,h3,hs.1,hs.2.1,hs.2.2⟩,?_⟩,hw,hwp,hwr⟩
  rw [show off+s * 3+3=off+(s+1) * 3 from by omega]
  exact ha
theorem J9 {te : TypeId} {f0 f1 f2 : Field} (he : P.underlying te = some (.struct #[f0, f1, f2])) (ce : P.cellsOf te = 3)
    (o0:f0.offset=0) (o1:f1.offset=1) (o2:f2.offset=2) (c0:P.cellsOf f0.type=1) (c1:P.cellsOf f1.type=1) (c2:P.cellsOf f2.type=1) (k0:P.underlying f0.type=some (.int .i64)) (k1:P.underlying f1.type=some (.int .i64)) (k2:P.underlying f2.type=some (.slice te)) :
    ∀ (fuel:Nat) (ts:TypeId) (cs:List Value) (x:DataW H × List MemPlace),P.underlying ts=some (.slice te)->DataW.trod enc P w base spare held fuel ts cs=some x->∃ o len cap f,cs=[.slice o len cap]/\qm w o len f/\VD f:=by
 intro fuel
 induction fuel using Nat.strongRecOn with
 | _ fuel ih =>
 intro ts cs x hts h
 rcases DataW.trod_slice hts h with ⟨rfl,_⟩ | ⟨a,len,cap,elems,rest,n,hfu,rfl,_,_,hl,hm,hlen,hel,_⟩
 ·exact ⟨_,_,_,.nil,rfl,qm.nil _ _,trivial⟩
 ·have one : ∀ i, i < len -> ∃ k n o l c ps, w.cell? (a.add (i * 3)) = some (.int .i64 k) /\ w.cell? (a.add (i * 3 + 1)) = some (.int .i64 n) /\ w.cell? (a.add (i * 3 + 2)) = some (.slice o l c) /\ qm w o l ps /\ sF n /\ VD ps := by
    intro i hi
    have h1:=hel i hi
    rw [List.getElem?_eq_getElem (by omega)] at h1
    obtain ⟨cs',h2,h3⟩:=Option.bind_eq_some_iff.1 h1
    rw [ce] at h2
    obtain ⟨_,hcl,hcell⟩:=World.cells?_some h2
    obtain ⟨xs,n',hn',_,_,hxl,hfx⟩:=DataW.trod_struct he h3
    match cs',hcl with
    | [u0,u1,u2],_ =>
     have Ko:xs.length=3:=by simpa using hxl
     have s0:=hfx 0 f0 rfl
     have s1:=hfx 1 f1 rfl
     have s2:=hfx 2 f2 rfl
     rw [c0,o0,show xs[0]?=some (xs[0]'(by omega)) from by simp [Ko]] at s0
     rw [c1,o1,show xs[1]?=some (xs[1]'(by omega)) from by simp [Ko]] at s1
     rw [c2,o2,show xs[2]?=some (xs[2]'(by omega)) from by simp [Ko]] at s2
     obtain ⟨z0,hz0,_,hw0⟩:=DataW.trod_int k0 s0
     obtain ⟨z1,hz1,_,hw1⟩:=DataW.trod_int k1 s1
     obtain ⟨o,l,c,ps,hz2,hps,hwp⟩:=ih n' (by omega) f2.type _ _ k2 s2
     simp at hz0 hz1 hz2
     have e1:=hcell 1 (by omega)
     have e2:=hcell 2 (by omega)
     simp [Deep.add_add] at e1 e2
     refine ⟨z0,z1,o,l,c,ps,?_,?_,?_,hps,hw1,hwp⟩
     ·have:(a.add (i * 3)).add 0=a.add (i * 3):=by rw [Deep.add_add];rfl
      rw [<-this,hcell 0 (by omega)];simp [hz0]
     ·rw [e1,hz1]
     ·rw [e2,hz2]
  by_cases h0:len=0
  ·subst h0
   exact ⟨_,_,_,.nil,rfl,qm.nil _ _,trivial⟩
  ·obtain ⟨k,n,o,l,c,ps,h1,_⟩:=one 0 (by omega)
   rw [Nat.zero_mul] at h1
   obtain ⟨b,off,rfl⟩:=Es h1
   obtain ⟨f,hf,hA,hwf⟩:=zC (b:=b) (off:=off) (len:=len) (w:=w) (fun i hi=>by
    obtain ⟨k,n,o,l,c,ps,h1,h2,h3,h4⟩:=one i hi
    exact ⟨k,n,o,l,c,ps,by simpa [Addr.add_lit] using h1,by simpa [Addr.add_lit,Nat.add_assoc] using h2,by simpa [Addr.add_lit,Nat.add_assoc] using h3,h4⟩) len 0 (by omega)
   rw [Nat.zero_mul,Nat.add_zero] at hA
   exact ⟨_,_,_,f,rfl,⟨hf.symm,by omega,fun _=>⟨b,off,rfl,hA⟩⟩,hwf⟩
theorem Ri {te : TypeId} {f0 f1 f2 : Field} (he : P.underlying te = some (.struct #[f0, f1, f2])) (ce : P.cellsOf te = 3)
    (o0:f0.offset=0) (o1:f1.offset=1) (o2:f2.offset=2) (c0:P.cellsOf f0.type=1) (c1:P.cellsOf f1.type=1) (c2:P.cellsOf f2.type=1) (k0:P.underlying f0.type=some (.int .i64)) (k1:P.underlying f1.type=some (.int .i64)) (k2:P.underlying f2.type=some (.slice te))
    {fuel:Nat} {cs:List Value} {x:DataW H × List MemPlace} (h:DataW.trod enc P w base spare held fuel te cs=some x):∃ k n o len cap f,cs=[.int .i64 k,.int .i64 n,.slice o len cap]/\qm w o len f/\sF n/\VD f:=by
 obtain ⟨xs,n',hn',_,hcl,hxl,hfx⟩:=DataW.trod_struct he h
 rw [ce] at hcl
 match cs,hcl with
 | [u0,u1,u2],_ =>
  have Ko:xs.length=3:=by simpa using hxl
  have s0:=hfx 0 f0 rfl
  have s1:=hfx 1 f1 rfl
  have s2:=hfx 2 f2 rfl
  rw [c0,o0,show xs[0]?=some (xs[0]'(by omega)) from by simp [Ko]] at s0
  rw [c1,o1,show xs[1]?=some (xs[1]'(by omega)) from by simp [Ko]] at s1
  rw [c2,o2,show xs[2]?=some (xs[2]'(by omega)) from by simp [Ko]] at s2
  obtain ⟨z0,hz0,_,hw0⟩:=DataW.trod_int k0 s0
  obtain ⟨z1,hz1,_,hw1⟩:=DataW.trod_int k1 s1
  obtain ⟨o,l,c,ps,hz2,hps,hwp⟩:=J9 he ce o0 o1 o2 c0 c1 c2 k0 k1 k2 n' f2.type _ _ k2 s2
  simp at hz0 hz1 hz2
  exact ⟨z0,z1,o,l,c,ps,by rw [hz0,hz1,hz2],hps,hw1,hwp⟩
end
section
variable {H:Type} {enc:TypeId × Value->H} {w:World} {base:Nat} {spare:Nat->Bool} {held:Bool}
end
end
section
open Go.ChangeShapes Go.WideShapes Go.ChangeAt Go.RowKit
theorem At.Yt {w:World}:∀ (f:Fo) (b off:Nat),At w b off f->AtIn (fun k=>k < w.heap.size) w b off f
 | .nil,_,_,_=>trivial
 | .cons k n ps r,b,off,h=>by
  obtain ⟨h1,h2,⟨o,l,c,h3,h4,h5,h6⟩,h7⟩:=h
  refine ⟨World.block_lt_of_cell? w _ h1,h1,h2,⟨o,l,c,h3,h4,h5,fun hl=>?_⟩,At.Yt r b (off+3) h7⟩
  obtain ⟨b',off',ho,ha⟩:=h6 hl
  exact ⟨b',off',ho,At.Yt ps b' off' ha⟩
theorem qm.aaj {w:World} {o:Option Addr} {len:Nat} {f:Fo} (h:qm w o len f):aC (fun k=>k < w.heap.size) w o len f:=by
 refine ⟨h.1,h.2.1,fun hl=>?_⟩
 obtain ⟨b,off,ho,ha⟩:=h.2.2 hl
 exact ⟨b,off,ho,ha.Yt⟩
def F6 (h:Nd):Prop:=h.nm.size<=maxLen/\sF h.tn/\VD h.tp/\sF h.n
section
variable {H:Type} {enc:TypeId × Value->H} {P:Program} {w:World} {base:Nat} {spare:Nat->Bool} {held:Bool}
abbrev Low (w:World):Nat->Prop:=fun k=>k < w.heap.size
theorem wM {b off len : Nat} (hb : Low w b) (one : ∀ i, i < len -> ∃ hd ps o1 l1 c1 o2 l2 c2, bF w b (off + i * 9) hd o1 l1 c1 o2 l2 c2 /\ aC (Low w) w o1 l1 hd.tp /\ aY (Low w) w o2 l2 ps /\ F6 hd /\ allT F6 ps) :
    ∀ m s,s+m=len->∃ f:To,f.length=m/\JB (Low w) w b (off+s * 9) f/\allT F6 f
 | 0,s,_=>⟨.nil,rfl,trivial,trivial⟩
 | m+1,s,h=>by
  obtain ⟨hd,ps,o1,l1,c1,o2,l2,c2,hc,hs1,hs2,hw,hwp⟩:=one s (by omega)
  obtain ⟨r,hr,ha,hwr⟩:=wM hb one m (s+1) (by omega)
  refine ⟨.cons hd ps r,by simp [To.length,hr],⟨hb,⟨o1,l1,c1,o2,l2,c2,hc,hs1,hs2.1,hs2.2.1,hs2.2.2⟩,?_⟩,hw,hwp,hwr⟩
  rw [show off+s * 9+9=off+(s+1) * 9 from by omega]
  exact ha
theorem MB {te : TypeId} {f0 f1 f2 f3 f4 f5 g0 g1 q0 q1 q2 : Field} (he : P.underlying te = some (.struct #[f0, f1, f2, f3, f4, f5])) (ce : P.cellsOf te = 9)
    (o0:f0.offset=0) (o1:f1.offset=1) (o2:f2.offset=2) (o3:f3.offset=3) (o4:f4.offset=6) (o5:f5.offset=7)
    (c0:P.cellsOf f0.type=1) (c1:P.cellsOf f1.type=1) (c2:P.cellsOf f2.type=1) (c3:P.cellsOf f3.type=3) (c4:P.cellsOf f4.type=1) (c5:P.cellsOf f5.type=2)
    (k0:P.underlying f0.type=some (.int .i64)) (k1:P.underlying f1.type=some .string) (k2:P.underlying f2.type=some (.int .i64))
    (k5:P.underlying f5.type=some (.struct #[g0,g1])) (p0:g0.offset=0) (p1:g1.offset=1) (d0:P.cellsOf g0.type=1) (d1:P.cellsOf g1.type=1) (m0:P.underlying g0.type=some (.int .i64)) (m1:P.underlying g1.type=some (.int .i64))
    (k3:P.underlying f3.type=some (.struct #[q0,q1,q2])) (v0:q0.offset=0) (v1:q1.offset=1) (v2:q2.offset=2) (x0:P.cellsOf q0.type=1) (x1:P.cellsOf q1.type=1) (x2:P.cellsOf q2.type=1) (y0:P.underlying q0.type=some (.int .i64)) (y1:P.underlying q1.type=some (.int .i64)) (y2:P.underlying q2.type=some (.slice f3.type))
    {n:Nat} (ih:∀ m,m < n->∀ cs x,DataW.trod enc P w base spare held m f4.type cs=some x->∃ o len cap f,cs=[.slice o len cap]/\aY (Low w) w o len f/\allT F6 f)
    {cs:List Value} {x:DataW H × List MemPlace} (h:DataW.trod enc P w base spare held n te cs=some x) :
    ∃ hd ps o1 l1 c1 o2 l2 c2,cs=(cells9 hd o1 l1 c1 o2 l2 c2).toList/\aC (Low w) w o1 l1 hd.tp/\aY (Low w) w o2 l2 ps/\F6 hd/\allT F6 ps:=by
 obtain ⟨xs,n',hn',_,hcl,hxl,hfx⟩:=DataW.trod_struct he h
 rw [ce] at hcl
 match cs,hcl with
 | [u0,u1,u2,u3,u4,u5,u6,u7,u8],_ =>
  have Ou:xs.length=6:=by simpa using hxl
  have s0:=hfx 0 f0 rfl
  have s1:=hfx 1 f1 rfl
  have s2:=hfx 2 f2 rfl
  have s3:=hfx 3 f3 rfl
  have s4:=hfx 4 f4 rfl
  have s5:=hfx 5 f5 rfl
  rw [c0,o0,show xs[0]?=some (xs[0]'(by omega)) from by simp [Ou]] at s0
  rw [c1,o1,show xs[1]?=some (xs[1]'(by omega)) from by simp [Ou]] at s1
  rw [c2,o2,show xs[2]?=some (xs[2]'(by omega)) from by simp [Ou]] at s2
  rw [c3,o3,show xs[3]?=some (xs[3]'(by omega)) from by simp [Ou]] at s3
  rw [c4,o4,show xs[4]?=some (xs[4]'(by omega)) from by simp [Ou]] at s4
  rw [c5,o5,show xs[5]?=some (xs[5]'(by omega)) from by simp [Ou]] at s5
  obtain ⟨z0,hz0,_,hw0⟩:=DataW.trod_int k0 s0
  obtain ⟨z1,hz1,_,hw1⟩:=DataW.trod_string k1 s1
  obtain ⟨z2,hz2,_,hw2⟩:=DataW.trod_int k2 s2
  obtain ⟨tk,tn,tO,tl,tc,tf,hz3,hts,hwt,hwf⟩:=Ri k3 c3 v0 v1 v2 x0 x1 x2 y0 y1 y2 s3
  obtain ⟨o,l,c,ps,Ov,hps,hwp⟩:=ih n' (by omega) _ _ s4
  obtain ⟨ys,n2,hn2,_,hyc,hyl,hgy⟩:=DataW.trod_struct k5 s5
  have aak:ys.length=2:=by simpa using hyl
  have t0:=hgy 0 g0 rfl
  have t1:=hgy 1 g1 rfl
  rw [d0,p0,show ys[0]?=some (ys[0]'(by omega)) from by simp [aak]] at t0
  rw [d1,p1,show ys[1]?=some (ys[1]'(by omega)) from by simp [aak]] at t1
  obtain ⟨z7,hz7,_,_⟩:=DataW.trod_int m0 t0
  obtain ⟨z8,hz8,_,_⟩:=DataW.trod_int m1 t1
  simp at hz0 hz1 hz2 hz3 Ov hz7 hz8
  obtain ⟨hz3,acw,aal⟩:=hz3
  refine ⟨⟨z0,z1,z2,tk,tn,tf,z7,z8⟩,ps,tO,tl,tc,o,l,c,?_,hts.aaj,hps,⟨hw1,hwt,hwf,hw2⟩,hwp⟩
  subst hz0 hz1 hz2 hz3 acw aal Ov hz7 hz8
  rfl
theorem Hy {te : TypeId} {f0 f1 f2 f3 f4 f5 g0 g1 q0 q1 q2 : Field} (he : P.underlying te = some (.struct #[f0, f1, f2, f3, f4, f5])) (ce : P.cellsOf te = 9)
    (o0:f0.offset=0) (o1:f1.offset=1) (o2:f2.offset=2) (o3:f3.offset=3) (o4:f4.offset=6) (o5:f5.offset=7)
    (c0:P.cellsOf f0.type=1) (c1:P.cellsOf f1.type=1) (c2:P.cellsOf f2.type=1) (c3:P.cellsOf f3.type=3) (c4:P.cellsOf f4.type=1) (c5:P.cellsOf f5.type=2)
    (k0:P.underlying f0.type=some (.int .i64)) (k1:P.underlying f1.type=some .string) (k2:P.underlying f2.type=some (.int .i64)) (k4:P.underlying f4.type=some (.slice te))
    (k5:P.underlying f5.type=some (.struct #[g0,g1])) (p0:g0.offset=0) (p1:g1.offset=1) (d0:P.cellsOf g0.type=1) (d1:P.cellsOf g1.type=1) (m0:P.underlying g0.type=some (.int .i64)) (m1:P.underlying g1.type=some (.int .i64))
    (k3:P.underlying f3.type=some (.struct #[q0,q1,q2])) (v0:q0.offset=0) (v1:q1.offset=1) (v2:q2.offset=2) (x0:P.cellsOf q0.type=1) (x1:P.cellsOf q1.type=1) (x2:P.cellsOf q2.type=1) (y0:P.underlying q0.type=some (.int .i64)) (y1:P.underlying q1.type=some (.int .i64)) (y2:P.underlying q2.type=some (.slice f3.type)) :
    ∀ (fuel:Nat) (cs:List Value) (x:DataW H × List MemPlace),DataW.trod enc P w base spare held fuel f4.type cs=some x->∃ o len cap f,cs=[.slice o len cap]/\aY (Low w) w o len f/\allT F6 f:=by
 intro fuel
 induction fuel using Nat.strongRecOn with
 | _ fuel ih =>
 intro cs x h
 rcases DataW.trod_slice k4 h with ⟨rfl,_⟩ | ⟨a,len,cap,elems,rest,n,hfu,rfl,_,_,hl,hm,hlen,hel,_⟩
 ·exact ⟨_,_,_,.nil,rfl,aY.nil _ _ _,trivial⟩
 ·have one : ∀ i, i < len -> ∃ hd ps o1 l1 c1 o2 l2 c2, (∀ j, j < 9 -> w.cell? (a.add (i * 9 + j)) = (cells9 hd o1 l1 c1 o2 l2 c2).toList[j]?) /\ aC (Low w) w o1 l1 hd.tp /\ aY (Low w) w o2 l2 ps /\ F6 hd /\ allT F6 ps := by
    intro i hi
    have h1:=hel i hi
    rw [List.getElem?_eq_getElem (by omega)] at h1
    obtain ⟨cs',h2,h3⟩:=Option.bind_eq_some_iff.1 h1
    rw [ce] at h2
    obtain ⟨_,hcl,hcell⟩:=World.cells?_some h2
    obtain ⟨hd,ps,r1,l1,e1,r2,l2,e2,rfl,hs1,hs2,hw,hwp⟩:=MB he ce o0 o1 o2 o3 o4 o5 c0 c1 c2 c3 c4 c5 k0 k1 k2 k5 p0 p1 d0 d1 m0 m1 k3 v0 v1 v2 x0 x1 x2 y0 y1 y2 (fun m hm cs x=>ih m (by omega) cs x) h3
    refine ⟨hd,ps,r1,l1,e1,r2,l2,e2,?_,hs1,hs2,hw,hwp⟩
    intro j hj
    rw [<-Deep.add_add]
    exact hcell j hj
  by_cases h0:len=0
  ·subst h0
   exact ⟨_,_,_,.nil,rfl,aY.nil _ _ _,trivial⟩
  ·obtain ⟨hd,ps,r1,l1,e1,r2,l2,e2,h1,_⟩:=one 0 (by omega)
   have h1':=h1 0 (by omega)
   rw [Nat.zero_mul] at h1'
   obtain ⟨b,off,rfl⟩:=Es (v:=.int .i64 hd.k) h1'
   have hb:Low w b:=World.block_lt_of_cell? w (⟨b,off+0,none⟩:Addr) (show w.cell? ⟨b,off+0,none⟩=some (.int .i64 hd.k) from h1')
   obtain ⟨f,hf,hA,hwf⟩:=wM (b:=b) (off:=off) (len:=len) (w:=w) hb (fun i hi=>by
    obtain ⟨hd,ps,r1,l1,e1,r2,l2,e2,h1,h4⟩:=one i hi
    refine ⟨hd,ps,r1,l1,e1,r2,l2,e2,?_,h4⟩
    have g:=fun j hj=>h1 j hj
    simp only [Addr.add_lit] at g
    exact ⟨g 0 (by omega),g 1 (by omega),g 2 (by omega),g 3 (by omega),g 4 (by omega),g 5 (by omega),g 6 (by omega),g 7 (by omega),g 8 (by omega)⟩) len 0 (by omega)
   rw [Nat.zero_mul,Nat.add_zero] at hA
   exact ⟨_,_,_,f,rfl,⟨hf.symm,by omega,fun _=>⟨b,off,rfl,hA⟩⟩,hwf⟩
end
section
variable {H:Type} {enc:TypeId × Value->H} {w:World} {base:Nat} {spare:Nat->Bool} {held:Bool}
theorem Ox {v:Value} {d:DataW H} {p:List MemPlace} (hv:∃ cs,v=.agg cs/\cs.size=Tryz.prog.cellsOf 29) (h:DataW.Trod enc Tryz.prog w base spare held 29 v d p):∃ hd ps o1 l1 c1 o2 l2 c2,v=bC hd o1 l1 c1 o2 l2 c2/\aC (Low w) w o1 l1 hd.tp/\aY (Low w) w o2 l2 ps/\F6 hd/\allT F6 ps:=by
 obtain ⟨cs,rfl,_⟩:=hv
 obtain ⟨fuel,hf⟩:=h
 obtain ⟨hd,ps,o1,l1,c1,o2,l2,c2,he,h1,h2,h3,h4⟩:=MB Tryz.underlying29 (by kernel_rfl) rfl rfl rfl rfl rfl rfl (by kernel_rfl) (by kernel_rfl) (by kernel_rfl) (by kernel_rfl) (by kernel_rfl) (by kernel_rfl) Tryz.underlying3 Tryz.underlying9 Tryz.underlying3 Tryz.underlying27 rfl rfl (by kernel_rfl) (by kernel_rfl) Tryz.underlying3 Tryz.underlying3 Tryz.underlying24 rfl rfl rfl (by kernel_rfl) (by kernel_rfl) (by kernel_rfl) Tryz.underlying3 Tryz.underlying3 Tryz.underlying22
  (fun m _ cs x hh=>Hy Tryz.underlying29 (by kernel_rfl) rfl rfl rfl rfl rfl rfl (by kernel_rfl) (by kernel_rfl) (by kernel_rfl) (by kernel_rfl) (by kernel_rfl) (by kernel_rfl) Tryz.underlying3 Tryz.underlying9 Tryz.underlying3 Tryz.underlying25 Tryz.underlying27 rfl rfl (by kernel_rfl) (by kernel_rfl) Tryz.underlying3 Tryz.underlying3 Tryz.underlying24 rfl rfl rfl (by kernel_rfl) (by kernel_rfl) (by kernel_rfl) Tryz.underlying3 Tryz.underlying3 Tryz.underlying22 m cs x hh) hf
 refine ⟨hd,ps,o1,l1,c1,o2,l2,c2,?_,h1,h2,h3,h4⟩
 unfold bC
 congr 1
 apply Array.toList_inj.1
 simpa [Value.cells] using he
end
end
section
open Go.RowKit Go.Shelf
namespace Sc
theorem sO {G H:Nd->Prop}:∀ f:To,allT G f->allT H f->allT (fun h=>G h/\H h) f
 | .nil,_,_=>trivial
 | .cons _ ps r,e,e'=>⟨⟨e.1,e'.1⟩,sO ps e.2.1 e'.2.1,sO r e.2.2 e'.2.2⟩
structure Small (h:Nd) (ps:To):Prop where
 good:allT sJ (.cons h ps .nil)
 right:Hq h/\allT Hq ps
 size:ps.size<=199
theorem fP {h:Nd} {ps:To} (hg:jW h ps=false) (ho:F6 h) (hop:allT F6 ps):Small h ps:=by
 have ga:=J7 hg
 have ba:=Me ga.1
 have hall:=sO ps hop (lW (fun h hh=>Me hh) _ ga.2.1)
 exact ⟨⟨⟨by omega,by omega,ho.2.1,ho.2.2.1⟩,lW (fun h hh=>⟨by have:=hh.2.1;omega,by have:=hh.2.2;omega,hh.1.2.1,hh.1.2.2.1⟩) _ hall,trivial⟩,
  ⟨⟨by omega,by omega,ho.2.2.2⟩,lW (fun h hh=>⟨by have:=hh.2.1;omega,by have:=hh.2.2;omega,hh.1.2.2.2⟩) _ hall⟩,by omega⟩
theorem Kq (h : Nd) (ps : To) (w W : World) (o1 : Option Addr) (l1 c1 : Nat) (o2 : Option Addr) (l2 c2 : Nat) (h1 : aC (Low w) w o1 l1 h.tp) (h2 : aY (Low w) w o2 l2 ps) (ho : F6 h) (hop : allT F6 ps) (hq : ah w W) :
    Calls Tryz.prog 24 #[bC h o1 l1 c1 o2 l2 c2] W fun e w'=>e=.returned (.bool (jW h ps))/\ah W w' :=
 Hw h ps W (Low w) o1 l1 c1 o2 l2 c2 (h1.stay hq) (h2.stay hq) (by have:=ho.1;unfold maxLen at this;omega) (lW (fun h hh=>by have:=hh.1;unfold maxLen at this;omega) _ hop)
end Sc
end
section
open Go.RowKit Go.Maps
theorem Rj (a : Option Addr) (ca : Nat) (b : Option Addr) (cb : Nat) (la lb : List Int) (w : World) (ha : dV w a la) (hb : dV w b lb) (hz : la.length <= 1000000) :
    Calls Tryz.prog 14 #[.slice a la.length ca,.slice b lb.length cb] w fun e w'=>e=.returned (.bool (la == lb))/\ah w w':=by
 have HA:=hid ha
 have HB:=hid hb
 clear ha hb
 obtain ⟨res,hres⟩:∃ res,res=(la == lb):=⟨_,rfl⟩
 have aW:=hid hres
 rw [<-hres]
 clear hres
 by_cases hlen:la.length=lb.length
 ·have b3:((la.length:Int) != (lb.length:Int))=false:=by simp [hlen]
  have XG:=hid hlen
  go_enter Tryz.func14,Tryz.ntmps14
  go_wp2_with fail
  go_loopw [5] (fun t wr=>∃ (i:Nat),t=.int .i64 i/\i<=la.length/\res=(la.drop i == lb.drop i)/\ah w wr) (fun t _=>la.length - (intOf t).toNat)
  case atStart=>exact ⟨0,rfl,Nat.zero_le _,aW.out,ah.refl _⟩
  case round =>
   obtain ⟨i,rfl,hi,hr,hq⟩:=hrel
   have HR:=hid hr
   have HQ:=hid hq
   clear hr hq
   by_cases hlt:i < la.length
   ·have hlt':(i:Int) < la.length:=by omega
    have adp:(i:Int) < lb.length:=by omega
    have aam:i < lb.length:=by omega
    obtain ⟨x,hx⟩:∃ x,la[i]?=some x:=⟨_,List.getElem?_eq_getElem hlt⟩
    obtain ⟨y,hy⟩:∃ y,lb[i]?=some y:=⟨_,List.getElem?_eq_getElem aam⟩
    obtain ⟨ba,oa,rfl,c1⟩:=HA.out.stay HQ.out i x hx
    obtain ⟨bb,ob,rfl,c2⟩:=HB.out.stay HQ.out i y hy
    have HN:Hid (res=((x == y) && (la.drop (i+1) == lb.drop (i+1)))):=by
     show _=_
     rw [HR.out,yD hx,yD hy];rfl
    clear hx hy
    cases hxy:(x != y)
    ·have hxy':(x == y)=true:=by simpa using hxy
     rw [hxy'] at HN
     go_wp2_with fail
     go_quiet (fail)
     go_wp2_with fail
     go_roundw
     case rel=>exact ⟨i+1,by go_num,by omega,by rw [HN.out];rfl,HQ.out.trans (ah.drewN _ _)⟩
     case measure=>simp [intOf];omega
    ·have hxy':(x == y)=false:=by simpa using hxy
     rw [hxy'] at HN
     go_wp2_with fail
     go_quiet (fail)
     go_wp2_with fail
     go_ret
     exact ⟨by rw [HN.out];rfl,HQ.out.trans (ah.drewN _ _)⟩
   ·have hlt':¬ (i:Int) < la.length:=by omega
    have HY:Hid (res=true):=by
     show _=_
     rw [HR.out,List.drop_of_length_le (by omega),List.drop_of_length_le (by have:=XG.out;omega)];rfl
    go_wp2_with fail
    go_ret
    exact ⟨by rw [HY.out];rfl,HQ.out⟩
 ·have b3:((la.length:Int) != (lb.length:Int))=true:=by simp;omega
  have HF:Hid (res=false):=by
   show _=_
   rw [aW.out]
   cases h:(la == lb)
   ·rfl
   ·exact absurd (by have:=eq_of_beq h;rw [this]) hlen
  go_enter Tryz.func14,Tryz.ntmps14
  go_wp2_with fail
  go_ret
  exact ⟨by rw [HF.out];rfl,ah.refl _⟩
end
section
open Go.RowKit Go.Shelf
namespace Sc
end Sc
namespace Cn
theorem Hz (h:Nd) (out:List Int):(dh h out).length<=out.length+1:=by unfold dh;split<;>simp
theorem AZ:∀ (f:To) (h:Nd) (place i:Nat) (e:Env) (out:List Int),(lq h place (dX f) i e out).length<=out.length+f.size
 | .nil,h,place,i,e,out=>Nat.le_refl _
 | .cons g qs r,h,place,i,e,out=>by
  have h1:(mW g (dX qs) (iY h place i e) out).length<=out.length+(qs.size+1):=by
   unfold mW
   split
   ·rw [fM];omega
   ·have:=AZ qs g out.length 0 (iY h place i e) (dh g out)
    have:=Hz g out
    omega
  have h3:=AZ r h place (i+1) e (mW g (dX qs) (iY h place i e) out)
  show (lq h place (dX r) (i+1) e (mW g (dX qs) (iY h place i e) out)).length<=_
  simp only [To.size];omega
theorem Rk (h:Nd) (ps:To):(jA h ps).length<=ps.size+1:=by
 unfold jA
 split
 ·unfold iC mW
  split
  ·rw [fM];simp
  ·have:=AZ ps h 0 0 [] (dh h [])
   have:=Hz h []
   simp at *;omega
 ·simp
theorem zD {w:World} {B:Nat} {o:Option Addr} {c:Nat} {l:List Int} (h:w.ownsRow B 3 1 (.slice o l.length c) l.length (fK l)):dV w o l:=by
 rcases h.2 with ⟨_,h2⟩ | ⟨g,cap,cur,he,_⟩
 ·have e:l=[]:=List.eq_nil_of_length_eq_zero h2
  subst e
  exact fun j s hs=>by simp at hs
 ·injection he with h1 h2 h3
  subst h1
  intro j x hx
  refine ⟨g,0,rfl,?_⟩
  have:=h.cells (g:=g) rfl j (.int .i64 x) (by rw [List.getElem?_map,hx];rfl)
  simpa [Addr.add_lit] using this
end Cn
end
section
open Go.RowKit Go.Shelf
open Sc (iE)
namespace Cn
def UrQ (w:World) (L:List Int) (x:Ending) (w':World):Prop:=∃ o c,x=.returned (.slice o L.length c)/\dV w' o L/\ah w w'
theorem vM {w:World} {o:Option Addr} {l:List Int} (h:dV w o l):∀ (W:World),ah w W->∀ (j:Nat) (u:Value),(fK l)[j]?=some u->∃ a,o=some a/\W.cell? (a.add j)=some u:=by
 intro W hq j u hj
 unfold fK at hj
 rw [List.getElem?_map] at hj
 obtain ⟨x,hx,rfl⟩:=Option.map_eq_some_iff.1 hj
 obtain ⟨b,off,rfl,hc⟩:=h j x hx
 exact ⟨_,rfl,by rw [Addr.add_lit];exact hq.at hc⟩
theorem ou {u:Value} {l:List Int} (h:u∈fK l):u.oneCell'=true:=by
 obtain ⟨z,_,rfl⟩:=List.mem_map.1 h
 rfl
theorem yE {w:World} {b:Nat} (h:w.heap[b]?=some (.cells #[] 3 (0,0))):w.ownsRow 0 3 1 (.slice (some ⟨b,0,none⟩) 0 0) 0 [] :=
 ⟨by simp,.inr ⟨b,0,#[],rfl,Nat.zero_le _,h,Nat.le_refl _,Nat.zero_le _,by simp,by simp⟩⟩
theorem A8 {w:World} {B n:Nat} {o:Option Addr} {c:Nat} {l:List Int} (h:w.ownsRow B 3 1 (.slice o n c) n (fK l)) (hn:n=l.length):dV w o l:=by
 subst hn
 exact zD h
theorem Ba (l:List Int) (x:Int):fK l++[.int .i64 x]=fK (l++[x]):=by unfold fK;rw [List.map_append];rfl
theorem Rn {W:World} {g n c i:Nat} {l:List Int} {x:Int} (h:W.ownsRow 0 3 1 (.slice (some ⟨g,0,none⟩) n c) n (fK l)) (hn:n=l.length) (hx:l[i]?=some x):dV (W.setCell ⟨g,i,none⟩ (.int .i64 (x+1))) (some ⟨g,0,none⟩) (bump l i):=by
 have hr:=(h.stored i (.int .i64 (x+1))).1
 have he:(fK l).set i (.int .i64 (x+1))=fK (bump l i):=by
  unfold fK bump
  apply List.ext_getElem?
  intro j
  rw [List.getElem?_set,List.getElem?_map,List.getElem?_map,List.getElem?_modify]
  by_cases hj:i=j
  ·subst hj
   have hl:=(List.getElem?_eq_some_iff.1 hx).1
   rw [hx]
   simp [hl]
  ·simp [hj]
 rw [he] at hr
 exact A8 hr (by rw [bump_length];exact hn)
theorem aan {w:World} {size n c m g0:Nat} {e:TypeId} {o:Option Addr} {xs:List Value} (h:w.ownsRow g0 e size (.slice o n c) m xs) (hm:0 < m):∃ g,o=some ⟨g,0,none⟩/\∀ j,w.frozen? ⟨g,j,none⟩=false:=by
 rcases h.2 with ⟨h1,h2⟩ | ⟨g,cap,cur,h1,_,h3,_⟩
 ·omega
 ·injection h1 with e1 e2 e3
  exact ⟨g,e1,fun j=>by simp [World.frozen?,h3]⟩
def aao (h:Nd) (ps:To):Prop:=∀ (w:World) (R T:Nat->Prop) (o1:Option Addr) (l1 c1:Nat) (o2:Option Addr) (l2 c2:Nat) (no:Option Addr) (nc:Nat) (po:Option Addr) (pc:Nat) (oo:Option Addr) (oc:Nat) (e:List ByteArray) (pl out:List Int) (m:Nat),
 aY R w o2 l2 ps->iE T w no e.length e->dV w po pl.reverse->pl.length=e.length->dV w oo out->(∀ x∈pl,0<=x/\x < out.length)->qF out m->e.length+ps.size<=200000->out.length+ps.size<=200000->m+ps.size<=200000 ->
 Calls Tryz.prog 15 #[bC h o1 l1 c1 o2 l2 c2,.slice no e.length nc,.slice po pl.length pc,.slice oo out.length oc] w (UrQ w (iC h ps (e.zip pl) out))
def aap (W0:World) (h:Nd) (place:Nat) (ps:To) (e:Env) (res:List Int) (n1:Nat) (v t:Value) (wx:World):Prop :=
 ∃ (i:Nat) (o:Option Addr) (c:Nat) (wO:List Int),v=.slice o wO.length c/\t=.int .i64 i/\i<=ps.length/\dV wx o wO/\ah W0 wx/\lq h place ((dX ps).drop i) i e wO=res/\n1<=wO.length/\wO.length+(ps.drop i).size<=200001/\∃ mi,qF wO mi/\mi+(ps.drop i).size<=200000
theorem Ro {w w':World} {b off:Nat} {h:Nd} {o1:Option Addr} {l1 c1:Nat} {o2:Option Addr} {l2 c2:Nat} (hc:bF w b off h o1 l1 c1 o2 l2 c2) (hq:ah w w'):bF w' b off h o1 l1 c1 o2 l2 c2:=hc.fr hq (fun h=>h)
theorem Oy (h:Nd) (ps:To):aao h ps:=by
 refine To.qE (T:=aao) ?_ h ps
 intro h ps ih w R T o1 l1 c1 o2 l2 c2 no nc po pc oo oc e pl out m hs hN hP hpl hO hpr hob hz1 hz2 hz3
 have HS:=hid hs
 have IH:=hid ih
 have HN:=hid hN
 have HP:=hid hP
 have HO:=hid hO
 have vN:=hid hpr
 have Oz:=hid hob
 have HPL:=hid hpl
 have hl2:l2<=200000:=by have:=To.length_le ps;have:=hs.1;omega
 have aaq:=hs.1
 have HL2:=hid aaq
 obtain ⟨W0,hW0⟩:∃ W0,W0=w.alloc (.cells (cells9 h o1 l1 c1 o2 l2 c2) 29):=⟨_,rfl⟩
 have HB:Hid (∀ W,ah W0 W->(W.cell? ⟨w.heap.size,0,none⟩=some (.int .i64 h.k)/\W.cell? ⟨w.heap.size,1,none⟩=some (.string h.nm)/\W.cell? ⟨w.heap.size,2,none⟩=some (.int .i64 h.n)/\W.cell? ⟨w.heap.size,3,none⟩=some (.int .i64 h.tk)/\W.cell? ⟨w.heap.size,4,none⟩=some (.int .i64 h.tn)/\W.cell? ⟨w.heap.size,5,none⟩=some (.slice o1 l1 c1)/\W.cell? ⟨w.heap.size,6,none⟩=some (.slice o2 l2 c2)/\W.cell? ⟨w.heap.size,7,none⟩=some (.int .i64 h.fr)/\W.cell? ⟨w.heap.size,8,none⟩=some (.int .i64 h.en))):=by
  intro W hq;rw [hW0] at hq;exact FQ w h o1 l1 c1 o2 l2 c2 _ W hq
 have hq0:ah w W0:=by rw [hW0];exact ah.alloc _ _
 have aK:=hid hq0
 have HI:=hid (Sc.wP T e h.nm no e.length nc W0 (hN.stay hq0) (by omega))
 obtain ⟨res,hres⟩:∃ res,iC h ps (e.zip pl) out=res:=⟨_,rfl⟩
 have aW:=hid hres
 have hvz:=VO (e:=e) (pl:=pl) hpl.symm h.nm out
 have hix:=Sc.aar e h.nm
 rw [hres]
 clear hs ih hN hP hO hpr hob hq0 hres aaq
 obtain ⟨en,hen⟩:∃ en,e.length=en:=⟨_,rfl⟩
 obtain ⟨pn,hpn⟩:∃ pn,pl.length=pn:=⟨_,rfl⟩
 obtain ⟨on,hon⟩:∃ on,out.length=on:=⟨_,rfl⟩
 have HEN:=hid hen
 have HPN:=hid hpn
 have Kr:=hid hon
 rw [hen] at HI hpl hz1 hix ⊢
 rw [hon] at hz2 ⊢
 rw [hpn] at hpl ⊢
 clear hen hpn hon
 unfold bC
 by_cases hk:h.k=1
 ·have hk':(h.k == 1)=true:=by simp [hk]
  have hre:res=rW (e.zip pl) h.nm out:=by rw [<-aW.out];unfold iC mW;rw [if_pos hk]
  generalize Sc.ix e h.nm=r at *
  by_cases hx:r < 0
  ·have Qw:Hid (res=out):=by show _=_;rw [hre,hvz.1 hx]
   clear hk hvz hre
   go_enter Tryz.func15,Tryz.ntmps15
   go_upto_region 1 with fail
   rw [<-hW0]
   clear hW0
   obtain ⟨a0,a1,a2,a3,a4,a5,a6,a7,a8⟩:=HB.out W0 (ah.refl _)
   go_wp2_with fail
   refine HI.out.mono ?_;rintro x w2 ⟨rfl,rfl⟩
   go_wp2_with fail
   go_ret
   exact ⟨oo,oc,by first | (rw [Qw.out,Kr.out];done) | (rw [Qw.out,Kr.out];rfl),by rw [Qw.out];exact HO.out.stay aK.out,aK.out⟩
  ·obtain ⟨k,hk2⟩:∃ k:Nat,r=k:=⟨r.toNat,by omega⟩
   subst hk2
   obtain ⟨x,hx1,hx2⟩:=hvz.2 k rfl
   obtain ⟨hx3,hx4⟩:=vN.out x (List.mem_of_getElem? hx1)
   obtain ⟨xn,hxn⟩:∃ xn:Nat,x=xn:=⟨x.toNat,by omega⟩
   subst hxn
   have hkl:k < pn:=by have:=(List.getElem?_eq_some_iff.1 hx1).1;have:=HPN.out;omega
   have hxl:xn < on:=by have:=Kr.out;omega
   obtain ⟨b,off,rfl,hc⟩:=HP.out (pn - 1 - k) xn (by rw [List.getElem?_reverse (by rw [HPN.out];omega),HPN.out,show pn - 1 - (pn - 1 - k)=k from by omega];exact hx1)
   obtain ⟨y,hy⟩:∃ y,out[xn]?=some y:=⟨_,List.getElem?_eq_getElem (by have:=Kr.out;omega)⟩
   obtain ⟨hy1,hy2⟩:=Oz.out y (List.mem_of_getElem? hy)
   have Qw:Hid (res=bump out xn):=by show _=_;rw [hre,hx2];rfl
   have HY:=hid hy
   have HC:=hid hc
   have hwA:IntKind.i64.wrap ((pn:Int) - 1)=(pn:Int) - 1:=IntWalk.i64_in _ (by omega)
   have hwB:IntKind.i64.wrap ((pn:Int) - 1 - k)=((pn - 1 - k:Nat):Int):=by rw [IntWalk.i64_in _ (by omega)];omega
   have hwY:IntKind.i64.wrap (y+1)=y+1:=IntWalk.i64_in _ (by omega)
   have hkb:pn - 1 - k < pn:=by omega
   have hkb':((pn - 1 - k:Nat):Int) < pn:=by omega
   have adq:(xn:Int) < on:=by omega
   clear hk hvz hre hx hx1 hx2 hx3 hx4 hc hy hpl hix
   generalize pn - 1 - k=pk at *
   go_enter Tryz.func15,Tryz.ntmps15
   go_upto_region 1 with fail
   rw [<-hW0]
   clear hW0
   obtain ⟨a0,a1,a2,a3,a4,a5,a6,a7,a8⟩:=HB.out W0 (ah.refl _)
   have Yu:=hid (yE (heap_alloc_new W0 (.cells #[] 3)))
   have HOC:=hid (vM (HO.out.stay aK.out))
   go_wp2_with fail
   refine HI.out.mono ?_;rintro x w2 ⟨rfl,rfl⟩
   clear a0 a1 a2 a3 a4 a5 a6 a7 a8
   go_upto_region 6 with (at_builtin;(refine gK (W0.alloc (.cells #[] 3)) rfl (.tmp 25) (.tmp 26) 35 rfl 3 _ 1 8 jH (.slice (some ⟨W0.heap.size,0,none⟩) 0 0) 0 [] rfl Yu.out oo on _ (fK out) rfl (by rw [Nat.mul_one];unfold fK;rw [List.length_map];exact Kr.out) (HOC.out _ (ah.alloc _ _)) (fun u hu=>ou hu) (by unfold maxLen;omega) (by omega) ?_);intro o3 c3 w3 ho3 hf3 fE hnil3;simp only [Nat.zero_add,List.nil_append] at ho3 fE hnil3 ⊢)
   obtain ⟨g3,rfl,aas⟩:=aan ho3 (by omega)
   have hq3:ah W0 w3:=Fr.trans' (ah.alloc W0 _) hf3 (fun i hi e=>by simp [Value.ownBlock] at e;omega)
   have hc3:w3.cell? ⟨b,off+pk,none⟩=some (.int .i64 xn):=hq3.at (aK.out.at HC.out)
   have hy3:w3.cell? ⟨g3,xn,none⟩=some (.int .i64 y):=by
    have:=ho3.cells (g:=g3) rfl xn (.int .i64 y) (by unfold fK;rw [List.getElem?_map,HY.out];rfl)
    simpa [Addr.add_lit] using this
   have hfz:w3.frozen? ⟨g3,xn,none⟩=false:=aas xn
   have hgl:W0.heap.size<=g3:=by
    rcases fE with e | e
    ·simp [Value.ownBlock] at e;omega
    ·simp [Value.ownBlock] at e;omega
   have wQ:Hid (dV (w3.setCell ⟨g3,xn,none⟩ (.int .i64 (y+1))) (some ⟨g3,0,none⟩) (bump out xn)/\ah w (w3.setCell ⟨g3,xn,none⟩ (.int .i64 (y+1)))) :=
    ⟨Rn ho3 Kr.out.symm HY.out,Fr.trans' (aK.out.trans hq3) (Fr.setCell (fun i=>i=g3) w3 ⟨g3,xn,none⟩ (.int .i64 (y+1)) rfl) (fun i hi e=>by have e':i=g3:=e;have:=aK.out.size;omega)⟩
   clear ho3 hf3 fE hnil3 hq3 aas
   go_wp2_with fail
   go_ret
   exact ⟨_,c3,by first | (rw [Qw.out,bump_length,Kr.out];done) | (rw [Qw.out,bump_length,Kr.out];rfl),by rw [Qw.out];exact wQ.out.1,wQ.out.2⟩
 ·have hk':(h.k == 1)=false:=by simp [hk]
  have Qw:Hid (lq h on (dX ps) 0 (e.zip pl) (dh h out)=res):=by show _=_;rw [<-aW.out,<-Kr.out];unfold iC mW;rw [if_neg hk]
  have hpb:pn<=200000:=by omega
  clear hk hvz hix HI hpl
  generalize hBb:w.heap.size=Bb at *
  have MC:=hid hBb
  clear hBb
  go_enter Tryz.func15,Tryz.ntmps15
  go_upto_region 1 with fail
  rw [<-hW0]
  clear hW0
  try rw [MC.out]
  obtain ⟨a0,a1,a2,a3,a4,a5,a6,a7,a8⟩:=HB.out W0 (ah.refl _)
  go_upto_region 9 with fail
  go_cut [56] from 44 to 56 (fun v wx=>v=.bool (Sc.oC h.k)/\W0=wx)
  case first =>
   cases h4:(h.k == 4)<;>cases h6:(h.k == 6)<;>cases h7:(h.k == 7)
   all_goals
    go_wp2_with fail
    go_meet
    exact ⟨by simp [Sc.oC,h4,h6,h7],rfl⟩
  case rest =>
   obtain ⟨hv,hw⟩:=hcut
   subst hv hw
   go_upto_if 56 with fail
   go_cut [3] from 56 to 61 (fun v wx=>∃ o c,v=.slice o (dh h out).length c/\dV wx o (dh h out)/\ah W0 wx)
   case first =>
    cases hb:Sc.oC h.k
    ·have HOU:Hid (dh h out=out):=by show _=_;unfold dh;rw [hb];rfl
     go_wp2_with fail
     go_meet
     rw [HOU.out]
     exact ⟨oo,oc,by rw [Kr.out],HO.out.stay aK.out,ah.refl _⟩
    ·have HOU:Hid (dh h out=out++[0]):=by show _=_;unfold dh;rw [if_pos hb]
     have Yu:=hid (yE (heap_alloc_new W0 (.cells #[] 3)))
     have HOC:=hid (vM (HO.out.stay aK.out))
     clear a0 a1 a2 a3 a4 a5 a6 a7 a8
     go_wp2_with (first
      | (at_builtin;(refine gK (W0.alloc (.cells #[] 3)) rfl (.tmp 57) (.tmp 58) 35 rfl 3 _ 1 8 jH (.slice (some ⟨W0.heap.size,0,none⟩) 0 0) 0 [] rfl Yu.out oo on _ (fK out) rfl (by rw [Nat.mul_one];unfold fK;rw [List.length_map];exact Kr.out) (HOC.out _ (ah.alloc _ _)) (fun u hu=>ou hu) (by unfold maxLen;omega) (by omega) ?_);intro o3 c3 w3 ho3 hf3 fE hnil3;simp only [Nat.zero_add,List.nil_append] at ho3 fE hnil3 ⊢)
      | (at_builtin;(refine aP w3 rfl (.tmp 59) (.tmp 60) 35 rfl 3 _ 1 8 jH (.slice o3 on c3) on (fK out) rfl ho3 #[.int .i64 0] rfl rfl (by simp [Value.oneCell']) (by unfold maxLen;omega) (by omega) ?_);intro g4 c4 w4 kX hf4 hg4))
     have hq3:ah W0 w3:=Fr.trans' (ah.alloc W0 _) hf3 (fun i hi e=>by simp [Value.ownBlock] at e;omega)
     have hq4:ah W0 w4:=Fr.trans' hq3 hf4 (fun i hi e=>by
      rcases fE with k | k
      ·rw [k] at e;simp [Value.ownBlock] at e;omega
      ·rw [k] at e;simp at e;omega)
     go_meet
     rw [HOU.out]
     rw [Ba] at kX
     exact ⟨_,c4,by rw [List.length_append,Kr.out];rfl,A8 kX (by rw [List.length_append,Kr.out];rfl),hq4⟩
   case rest =>
    rename World=>wa
    obtain ⟨ob1,yF,hv,ho1,hqa⟩:=hcut
    subst hv
    have HO1:=hid ho1
    have Vl:=hid hqa
    have h1:out.length<=(dh h out).length:=lu h out
    have h2:(dh h out).length<=out.length+1:=by unfold dh;split<;>simp
    have HB1:Hid (qF (dh h out) m):=Am Oz.out
    have Qx:Hid (Sc.oC h.k=true->on < (dh h out).length):=fun hb=>by have:=Bc (h:=h) (out:=out) hb;have:=Kr.out;omega
    clear ho1 hqa a0 a1 a2 a3 a4 a5 a6 a7 a8
    have hon:=Kr.out
    generalize hou:dh h out=out1 at *
    obtain ⟨n1,hn1⟩:∃ n1,out1.length=n1:=⟨_,rfl⟩
    have HN1:=hid hn1
    have h3:on<=n1:=by omega
    have h4:n1+ps.size<=200001:=by omega
    have h5:∀ x∈pl,0<=x/\x < n1:=fun x hx=>by have:=vN.out x hx;omega
    have aat:=hid h5
    have HST:Hid (aap W0 h on ps (e.zip pl) res n1 (.slice ob1 out1.length yF) (.int .i64 0) wa):=by
     refine ⟨0,ob1,yF,out1,rfl,rfl,Nat.zero_le _,HO1.out,Vl.out,?_,by omega,?_,m,HB1.out,?_⟩
     ·rw [List.drop_zero];exact Qw.out
     ·rw [To.drop_zero];omega
     ·rw [To.drop_zero];exact hz3
    clear h1 h2 hon hn1 hou h4 h5
    obtain ⟨a0,a1,a2,a3,a4,a5,a6,a7,a8⟩:=HB.out wa Vl.out
    go_wp2_with fail
    clear a0 a1 a2 a3 a4 a5 a6 a7 a8
    go_loopw [3,12] (fun v t wx=>aap W0 h on ps (e.zip pl) res n1 v t wx) (fun _ t _=>l2 - (intOf t).toNat)
    case atStart=>exact HST.out
    case round =>
     clear HST
     rename World=>wx
     obtain ⟨i,oi,ci,wO,rfl,rfl,hi,hoi,jQ,hfo,hni,hsz,mi,aau,hmi⟩:=hrel
     have hil:i<=l2:=by have:=HL2.out;omega
     have HOI:=hid hoi
     have qP:=hid jQ
     have HFO:=hid hfo
     have aav:=hid aau
     obtain ⟨oni,Yv⟩:∃ oni,wO.length=oni:=⟨_,rfl⟩
     have H8:=hid Yv
     rw [Yv] at hni hsz ⊢
     clear hoi jQ hfo aau Yv
     obtain ⟨a0,a1,a2,a3,a4,a5,a6,a7,a8⟩:=HB.out wx qP.out
     by_cases hlt:i < l2
     ·have hlt':(i:Int) < l2:=by omega
      obtain ⟨b9,aH,u,qu,kS,kT,d1u,kU,kV,kW,rfl,hdr,gu,ru,cu,su,tu⟩:=HS.out.nth hlt
      have hzu:=To.bV ps i u qu gu
      have hsd:(ps.drop i).size=qu.size+1+(ps.drop (i+1)).size:=by rw [hdr];simp only [To.size]
      have hfd:=HFO.out
      rw [Bd h on (dX ps) i (iC u qu) (e.zip pl) wO (yG ps i u qu gu)] at hfd
      have HFD:=hid hfd
      have vO:=hid cu
      have H9:=hid tu
      have OA:=hid (IH.out i u qu gu)
      have e1:((i:Int) == 1)=(i == 1):=by rw [Bool.eq_iff_iff,beq_iff_eq,beq_iff_eq];omega
      clear hdr gu ru cu su tu hfd HFO
      obtain ⟨e',Kt,hep,hpp,hlp,hle⟩:∃ (e':List ByteArray) (Kt:List Int),e'.zip Kt=iY h on i (e.zip pl)/\(∀ x∈Kt,0<=x/\x < n1)/\Kt.length=e'.length/\e'=(if Sc.iq h.k i then h.nm::e else e)/\Kt=(if Sc.iq h.k i then (on:Int)::pl else pl):=by
       refine ⟨_,_,?_,?_,?_,rfl,rfl⟩
       ·unfold iY;split<;>simp
       ·split
        ·next hb =>
         intro x hx
         rcases List.mem_cons.1 hx with rfl | hx
         ·have:=Qx.out (wR hb);have:=HN1.out;exact ⟨by omega,by omega⟩
         ·exact aat.out x hx
        ·exact aat.out
       ·have:=HPL.out;split<;>simp [this]
      have HEP:=hid hep
      have HPP:=hid hpp
      have HLP:=hid hlp
      have XG:=hid hle
      clear hep hpp hlp hle
      go_upto_region 15 with fail
      go_cut [87] from 71 to 87 (fun v wy=>v=.bool (Sc.iq h.k i)/\wx=wy)
      case first =>
       cases h4:(h.k == 4)<;>cases h7:(h.k == 7)<;>cases h6:(h.k == 6)<;>cases h1:(i == 1)
       all_goals
        rw [h1] at e1
        go_wp2_with fail
        go_meet
        exact ⟨by simp [Sc.iq,h4,h6,h7,h1],rfl⟩
      case rest =>
       obtain ⟨hv,hw⟩:=hcut
       subst hv hw
       go_upto_if 87 with fail
       go_cut [13,14] from 87 to 100 (fun v13 v14 wy=>∃ sG c13 Ap c14,v13=.slice sG e'.length c13/\v14=.slice Ap Kt.length c14/\iE (fun _=>True) wy sG e'.length e'/\dV wy Ap Kt.reverse/\ah wx wy)
       case first =>
        cases hb:Sc.iq h.k i
        ·obtain ⟨he',hp'⟩:=XG.out
         rw [hb] at he' hp'
         have he2:e'=e:=he'
         have hp2:Kt=pl:=hp'
         clear he' hp'
         go_wp2_with fail
         go_meet
         subst he2 hp2
         exact ⟨no,nc,po,pc,by rw [HEN.out],by rw [HPN.out],((HN.out.fr (Fr.refl (fun _=>False) _) (fun _ _ _=>⟨trivial,fun h=>h⟩)).stay aK.out).stay qP.out,(HP.out.stay aK.out).stay qP.out,ah.refl _⟩
        ·obtain ⟨he',hp'⟩:=XG.out
         rw [hb] at he' hp'
         have he2:e'=h.nm::e:=he'
         have hp2:Kt=(on:Int)::pl:=hp'
         have HE2:=hid he2
         have HP2:=hid hp2
         clear he' hp' he2 hp2
         have nH:Hid (∀ W',ah wx W'->W'.cell? ⟨Bb,1,none⟩=some (.string h.nm)):=fun W' hq=>(HB.out W' (qP.out.trans hq)).2.1
         have HAT:Hid (Sc.zF wx no e.reverse):=((HN.out.stay aK.out).stay qP.out).str
         have hrl:e.reverse.length=en:=by rw [List.length_reverse,HEN.out]
         obtain ⟨L,hL⟩:∃ L,e.reverse=L:=⟨_,rfl⟩
         have HRL:=hid hL
         rw [hL] at HAT hrl
         clear hL a0 a1 a2 a3 a4 a5 a6 a7 a8
         have a1:=nH.out wx (ah.refl _)
         have hqc:=ah.refl wx
         go_upto_region 16 with fail
         clear a1
         go_region_held3 (fun w'=>w'.cell? ⟨Bb,1,none⟩=some (.string h.nm))
          (((refine nH.out _ ?_);(repeat with_reducible first | exact hqc | exact ah.refl _ | refine jq ?_ | refine jr ?_)))
          (first
           | ((refine Sc.ji _ rfl (.tmp 88) (.tmp 89) rfl (.slice (some ⟨wx.heap.size,0,none⟩) 0 0) [] rfl ?hown no L en nc hrl.symm rfl ?hat ?hbd ?hne ?_);(case hown=>((refine Sc.uy ?_);(repeat (first | ((with_reducible refine dM _ _ _ _ ?hbe);(case hbe=>(simp;done))) | with_reducible refine ak (ah.alloc _ _) ?_ | with_reducible refine bT ?_ | fail))));(case hat=>((refine HAT.out.stay ?_);(repeat with_reducible first | exact hqc | exact ah.refl _ | refine jq ?_ | refine jr ?_)));(case hbd=>(simp;omega));(case hne=>simp);intro v3 w3 ho3 hf3 hg3 hn3;(refine fO (w0:=wx) ?hch hf3 ?hlo ?_);(case hch=>(repeat with_reducible first | exact hqc | exact ah.refl _ | refine jq ?_ | refine jr ?_));(case hlo=>(intro k hk;simp [Value.ownBlock] at hk;omega));intro hqc hw3)
           | ((refine Sc.ji _ rfl (.tmp 88) (.tmp 89) rfl (.slice (some ⟨wx.heap.size+1,0,none⟩) 0 0) [] rfl ?hown no L en nc hrl.symm rfl ?hat ?hbd ?hne ?_);(case hown=>((refine Sc.uy ?_);(repeat (first | ((with_reducible refine dM _ _ _ _ ?hbe);(case hbe=>(simp;done))) | with_reducible refine ak (ah.alloc _ _) ?_ | with_reducible refine bT ?_ | fail))));(case hat=>((refine HAT.out.stay ?_);(repeat with_reducible first | exact hqc | exact ah.refl _ | refine jq ?_ | refine jr ?_)));(case hbd=>(simp;omega));(case hne=>simp);intro v3 w3 ho3 hf3 hg3 hn3;(refine fO (w0:=wx) ?hch hf3 ?hlo ?_);(case hch=>(repeat with_reducible first | exact hqc | exact ah.refl _ | refine jq ?_ | refine jr ?_));(case hlo=>(intro k hk;simp [Value.ownBlock] at hk;omega));intro hqc hw3)
           | ((refine Sc.ji _ rfl (.tmp 90) (.tmp 93) rfl v3 ([]++L) rfl ?hown (some ⟨wx.heap.size,0,none⟩) [h.nm] 1 1 rfl rfl ?hat ?hbd hn3 ?_);(case hown=>(first | with_reducible exact ho3 | with_reducible exact ho3.alloc _ | fail));(case hat=>((refine Sc.uz ?_);(repeat (first | ((with_reducible refine dM _ _ _ _ ?hbe);(case hbe=>(simp;done))) | with_reducible refine ak (ah.alloc _ _) ?_ | with_reducible refine bT ?_ | ((with_reducible refine ay hf3 ?pJ ?_);(case pJ=>(simp [Value.ownBlock];done))) | ((with_reducible refine ay hf3 ?pJ ?_);(case pJ=>(simp [Value.ownBlock];omega))) | fail))));(case hbd=>(simp;omega));intro v4 w4 kX hf4 hg4 hn4;(refine fO (w0:=wx) ?hch hf4 ?hlo ?_);(case hch=>(repeat with_reducible first | exact hqc | exact ah.refl _ | refine jq ?_ | refine jr ?_));(case hlo=>(intro k hk;rcases hg3 k hk with h | h;(simp [Value.ownBlock] at h;omega);(simp at h;omega)));intro hqc hw4)
           | ((refine Sc.ji _ rfl (.tmp 90) (.tmp 93) rfl v3 ([]++L) rfl ?hown (some ⟨wx.heap.size+1,0,none⟩) [h.nm] 1 1 rfl rfl ?hat ?hbd hn3 ?_);(case hown=>(first | with_reducible exact ho3 | with_reducible exact ho3.alloc _ | fail));(case hat=>((refine Sc.uz ?_);(repeat (first | ((with_reducible refine dM _ _ _ _ ?hbe);(case hbe=>(simp;done))) | with_reducible refine ak (ah.alloc _ _) ?_ | with_reducible refine bT ?_ | ((with_reducible refine ay hf3 ?pJ ?_);(case pJ=>(simp [Value.ownBlock];done))) | ((with_reducible refine ay hf3 ?pJ ?_);(case pJ=>(simp [Value.ownBlock];omega))) | fail))));(case hbd=>(simp;omega));intro v4 w4 kX hf4 hg4 hn4;(refine fO (w0:=wx) ?hch hf4 ?hlo ?_);(case hch=>(repeat with_reducible first | exact hqc | exact ah.refl _ | refine jq ?_ | refine jr ?_));(case hlo=>(intro k hk;rcases hg3 k hk with h | h;(simp [Value.ownBlock] at h;omega);(simp at h;omega)));intro hqc hw4)
           | ((refine Sc.ji _ rfl (.tmp 90) (.tmp 93) rfl v3 ([]++L) rfl ?hown (some ⟨w3.heap.size,0,none⟩) [h.nm] 1 1 rfl rfl ?hat ?hbd hn3 ?_);(case hown=>(first | with_reducible exact ho3 | with_reducible exact ho3.alloc _ | fail));(case hat=>((refine Sc.uz ?_);(repeat (first | ((with_reducible refine dM _ _ _ _ ?hbe);(case hbe=>(simp;done))) | with_reducible refine ak (ah.alloc _ _) ?_ | with_reducible refine bT ?_ | ((with_reducible refine ay hf3 ?pJ ?_);(case pJ=>(simp [Value.ownBlock];done))) | ((with_reducible refine ay hf3 ?pJ ?_);(case pJ=>(simp [Value.ownBlock];omega))) | fail))));(case hbd=>(simp;omega));intro v4 w4 kX hf4 hg4 hn4;(refine fO (w0:=wx) ?hch hf4 ?hlo ?_);(case hch=>(repeat with_reducible first | exact hqc | exact ah.refl _ | refine jq ?_ | refine jr ?_));(case hlo=>(intro k hk;rcases hg3 k hk with h | h;(simp [Value.ownBlock] at h;omega);(simp at h;omega)));intro hqc hw4)
           | fail)
         all_goals
          obtain ⟨sG,c13,Rq,Rt,Yw⟩:=Sc.Ru (T:=fun _=>True) (nm:=h.nm) kX HRL.out (w:=wx) (fun g hg=>by
           rcases hg4 g hg with h | h
           ·rcases hg3 g h with h | h
            ·simp [Value.ownBlock] at h;omega
            ·first | omega | (simp at h;omega)
           ·first | omega | (simp at h;omega)) hqc (by have:=HEN.out;omega)
          injection Rq with Rq
          subst Rq
          have acy:=hid Rt
          have acz:=hid Yw
          have Yu:=hid (yE (heap_alloc_new w4 (.cells #[] 3)))
          have HOC:=hid (vM (((HP.out.stay aK.out).stay qP.out).stay Yw))
          have aaw:pl.reverse.length=pn:=by rw [List.length_reverse];exact HPN.out
          clear Rt Yw kX hg4 hf4 ho3 hg3 hf3 hqc
          go_wp2_with (first
           | (at_builtin;(refine gK (w4.alloc (.cells #[] 3)) rfl (.tmp 95) (.tmp 96) 35 rfl 3 _ 1 8 jH (.slice (some ⟨w4.heap.size,0,none⟩) 0 0) 0 [] rfl Yu.out po pn _ (fK pl.reverse) rfl (by rw [Nat.mul_one];unfold fK;rw [List.length_map];exact aaw) (HOC.out _ (ah.alloc _ _)) (fun u hu=>ou hu) (by unfold maxLen;omega) (by omega) ?_);intro o3 c3 w3 ho3 hf3 fE hnil3;simp only [Nat.zero_add,List.nil_append] at ho3 fE hnil3 ⊢)
           | (at_builtin;(refine aP w3 rfl (.tmp 97) (.tmp 99) 35 rfl 3 _ 1 8 jH (.slice o3 pn c3) pn (fK pl.reverse) rfl ho3 #[.int .i64 (on:Nat)] rfl rfl (by simp [Value.oneCell']) (by unfold maxLen;omega) (by omega) ?_);intro g5 c5 w5 ho5 hf5 hg5))
          have hq3:ah w4 w3:=Fr.trans' (ah.alloc w4 _) hf3 (fun i hi e=>by simp [Value.ownBlock] at e;omega)
          have hq5:ah w4 w5:=Fr.trans' hq3 hf5 (fun i hi e=>by
           rcases fE with k | k
           ·rw [k] at e;simp [Value.ownBlock] at e;omega
           ·rw [k] at e;simp at e;omega)
          go_meet
          rw [HE2.out,HP2.out]
          rw [Ba] at ho5
          exact ⟨sG,c13,_,c5,rfl,by rw [List.length_cons,HPN.out],(acy.out.fr (Fr.refl (fun _=>False) _) (fun _ _ _=>⟨trivial,fun h=>h⟩)).stay hq5,by rw [List.reverse_cons];exact A8 ho5 (by rw [List.length_append,aaw];rfl),acz.out.trans hq5⟩
       case rest =>
        rename World=>wy
        obtain ⟨sG,c13,Ap,c14,Rq,acA,Rt,aax,hqy⟩:=hcut
        subst Rq acA
        have hq':=qP.out.trans hqy
        have hel:e'.length<=en+1:=by
         have h1:=XG.out.1
         have h2:=HEN.out
         rw [h1]
         split<;>simp<;>omega
        have hcl:=OA.out wy R (fun _=>True) kS kT d1u kU kV kW sG c13 Ap c14 oi ci e' Kt wO mi (H9.out.stay (aK.out.trans hq')) Rt aax HLP.out (HOI.out.stay hqy) (fun x hx=>by have:=HPP.out x hx;have:=H8.out;omega) aav.out (by omega) (by rw [H8.out];omega) (by omega)
        rw [HEP.out,H8.out] at hcl
        have hgd:=Bf u qu (iY h on i (e.zip pl)) wO mi (by rw [<-HEP.out];exact fun x hx=>by have:=HPP.out x.2 (List.of_mem_zip hx).2;have:=H8.out;omega) aav.out
        have hup:=Rw u qu (iY h on i (e.zip pl)) wO
        have HCL:=hid hcl
        have JC:=hid hgd
        have HUP:=hid hup
        have hcu:=Ro vO.out (aK.out.trans hq')
        have HQY:=hid hqy
        obtain ⟨v0,v1,v2,v3,v4,v5,v6,v7,v8⟩:=hcu
        clear a0 a1 a2 a3 a4 a5 a6 a7 a8 hcl hgd hup Rt aax hqy hq' hel
        obtain ⟨a0,a1,a2,a3,a4,a5,a6,a7,a8⟩:=HB.out wy (qP.out.trans HQY.out)
        unfold bC at HCL
        generalize iC u qu (iY h on i (e.zip pl)) wO=ro at *
        go_wp2_with fail
        refine HCL.out.mono ?_;rintro x w6 ⟨o6,c6,rfl,hi6,hq6⟩
        have HI6:=hid hi6
        have zG:=hid hq6
        clear hi6 hq6 a0 a1 a2 a3 a4 a5 a6 a7 a8 v0 v1 v2 v3 v4 v5 v6 v7 v8
        go_wp2_with fail
        go_roundw
        case rel =>
         refine ⟨i+1,o6,c6,ro,rfl,by go_num,by have:=HL2.out;omega,HI6.out,qP.out.trans (HQY.out.trans zG.out),HFD.out,by have:=JC.out.1;have:=H8.out;omega,by have:=HUP.out;have:=H8.out;omega,mi+qu.size+1,JC.out.2,by omega⟩
        case measure=>simp [intOf];omega
     ·have hlt':¬ (i:Int) < l2:=by omega
      have hfin:wO=res:=by
       have k:=HFO.out
       rw [List.drop_eq_nil_of_le (by rw [qQ];have:=HL2.out;omega)] at k
       exact k
      have bJ:=hid hfin
      clear hfin
      go_wp2_with fail
      go_ret
      exact ⟨oi,ci,by first | (rw [<-bJ.out,H8.out];done) | (rw [<-bJ.out,H8.out];rfl),by rw [<-bJ.out];exact HOI.out,aK.out.trans qP.out⟩
end Cn
end
end Go.Proofs.YtcninopmelmajaaGreatDoor
