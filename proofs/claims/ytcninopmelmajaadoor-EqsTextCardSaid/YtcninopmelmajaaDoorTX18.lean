/-
  Texts laid together (TeSound, TeListN, TeSize): laws and walks, with their conditions.
-/
import Derived.Deep.MidRow
import Derived.RangeFuncLeaves
import Derived.Test.YtcninopmelmajaaDoorTX17
set_option maxHeartbeats 8000000
set_option maxRecDepth 1000000
namespace Go.Proofs.YtcninopmelmajaaDoor
open Go.Lib (hid)
section
open Go.RowKit
def Aa (k:Int):Bool:=k == 1 || k == 4 || k == 6 || k == 7
def G9 (k:Int):Int:=if k == 1 then 9223372036854775807 else if k == 2 then 999999999 else if k == 3 then 1 else 0
def rC (k:Int):Int:=if k == 4 || k == 10 then 1 else if k == 5 || k == 6 || k == 7 || k == 9 then 2 else if k == 8 then 3 else 0
def xP (k:Int):Int:=if k == 4 || k == 10 then 1 else if k == 5 || k == 6 || k == 7 then 2 else if k == 8 then 3 else if k == 9 then 8 else 0
def xQ (tk tn:Int) (tp:Fo):Bool:=lI tk tn tp && (Fo.vars [] (.cons tk tn tp .nil)).isEmpty
def nO (h:Nd):Bool:=if Aa h.k then Lx.nameB h.nm.data.toList else h.nm.toList.isEmpty
def rD (h:Nd):Bool:=if h.k == 10 then xQ h.tk h.tn h.tp else lJ h.tk h.tn h.tp 0 0 .nil
def fK (h:Nd) (m:Nat):Bool :=
 decide (1<=h.k) && decide (h.k<=10) && nO h && rD h && decide (0<=h.n) && decide (h.n<=G9 h.k) && decide (rC h.k<=m) && decide ((m:Int)<=xP h.k)
def fM:Array Value:=#[
 .bool false,.bool false,.int .i64 0,.int .i64 0,.int .i64 0,
 .bool true,.bool false,.int .i64 0,.int .i64 0,.int .i64 9223372036854775807,
 .bool false,.bool false,.int .i64 0,.int .i64 0,.int .i64 999999999,
 .bool false,.bool false,.int .i64 0,.int .i64 0,.int .i64 1,
 .bool true,.bool false,.int .i64 1,.int .i64 1,.int .i64 0,
 .bool false,.bool false,.int .i64 2,.int .i64 2,.int .i64 0,
 .bool true,.bool false,.int .i64 2,.int .i64 2,.int .i64 0,
 .bool true,.bool false,.int .i64 2,.int .i64 2,.int .i64 0,
 .bool false,.bool false,.int .i64 3,.int .i64 3,.int .i64 0,
 .bool false,.bool false,.int .i64 2,.int .i64 8,.int .i64 0,
 .bool false,.bool true,.int .i64 1,.int .i64 1,.int .i64 0]
theorem Jg {P:Program} {fn:Func} {tmps:Array Value} {t:TypeId} {a:Tmp} {ad:Addr} {v:Value} {w:World} (hr:fn.results=#[.cell a t]) (hx:tmps.getD a undef=.pointer (some ad)) (hl:(loadVar t ad).run P w=.ok v w):(results fn tmps).run P w=.ok v w:=by
 have hx2:tmps[a]?.getD undef=.pointer (some ad):=by simpa using hx
 simp [results,hr,asAddr,hx2,hl]
theorem bU {P : Program} {ops : Array Oper} {rest : List Oper} {o : Oper} {a : Act} {w : World} {Q : Exit -> Act -> World -> Prop} (hg : o.guard = none) (t : TypeId) (parts : Array (Nat × Operand)) (ho : o.op = .build t parts)
    (cs:Array Value) (hc:P.built t (parts.map fun (i,x)=>(i,a.eval x)).toList=some cs)
    (h:wpList P ops Q rest (a.put o.dst (.agg cs)) w):wpList P ops Q (o::rest) a w :=
 wpList_build hg t parts ho (by rw [hc];rfl) (by rw [hc];exact h)
def zeroCells:Array Value:=#[
 .bool false,.bool false,.int .i64 0,.int .i64 0,.int .i64 0,.bool false,.bool false,.int .i64 0,.int .i64 0,.int .i64 0,
 .bool false,.bool false,.int .i64 0,.int .i64 0,.int .i64 0,.bool false,.bool false,.int .i64 0,.int .i64 0,.int .i64 0,
 .bool false,.bool false,.int .i64 0,.int .i64 0,.int .i64 0,.bool false,.bool false,.int .i64 0,.int .i64 0,.int .i64 0,
 .bool false,.bool false,.int .i64 0,.int .i64 0,.int .i64 0,.bool false,.bool false,.int .i64 0,.int .i64 0,.int .i64 0,
 .bool false,.bool false,.int .i64 0,.int .i64 0,.int .i64 0,.bool false,.bool false,.int .i64 0,.int .i64 0,.int .i64 0,
 .bool false,.bool false,.int .i64 0,.int .i64 0,.int .i64 0]
theorem LG (w:World):Calls Tryd.prog 70 #[] w fun e w'=>e=.returned (.agg fM)/\ah w w':=by
 obtain ⟨W0,hW0⟩:∃ W0,W0=w.alloc (.cells zeroCells 114):=⟨_,rfl⟩;obtain ⟨B,hB⟩:∃ B,B=w.heap.size:=⟨_,rfl⟩;have hb0:W0.heap[B]?=some (.cells zeroCells 114 (0,0)):=by rw [hW0,hB];exact heap_alloc_new _ _
 have bD:Hid (ah w W0):=by rw [hW0];exact ah.alloc _ _
 have HB0:=hid hb0;have bY:=hid hB;have hi:(Tryd.prog.info? 114).map (·.size)=some 55:=by kernel_rfl
 have HI:=hid hi;clear hi hb0;go_enter Tryd.func70,Tryd.ntmps70;go_upto_region 1 with fail
 change Code.wp _ _ _ _ (w.alloc (.cells zeroCells 114));rw [<-hW0,<-hB];clear hW0 hB;refine wp_region_lit ?_
 with_reducible refine bU (by rfl) 113 _ (by rfl) #[.bool true,.bool false,.int .i64 0,.int .i64 0,.int .i64 9223372036854775807] (by kernel_rfl) ?_
 go_frame
 with_reducible refine bU (by rfl) 113 _ (by rfl) #[.bool false,.bool false,.int .i64 0,.int .i64 0,.int .i64 999999999] (by kernel_rfl) ?_
 go_frame
 with_reducible refine bU (by rfl) 113 _ (by rfl) #[.bool false,.bool false,.int .i64 0,.int .i64 0,.int .i64 1] (by kernel_rfl) ?_
 go_frame
 with_reducible refine bU (by rfl) 113 _ (by rfl) #[.bool true,.bool false,.int .i64 1,.int .i64 1,.int .i64 0] (by kernel_rfl) ?_
 go_frame
 with_reducible refine bU (by rfl) 113 _ (by rfl) #[.bool false,.bool false,.int .i64 2,.int .i64 2,.int .i64 0] (by kernel_rfl) ?_
 go_frame
 with_reducible refine bU (by rfl) 113 _ (by rfl) #[.bool true,.bool false,.int .i64 2,.int .i64 2,.int .i64 0] (by kernel_rfl) ?_
 go_frame
 with_reducible refine bU (by rfl) 113 _ (by rfl) #[.bool true,.bool false,.int .i64 2,.int .i64 2,.int .i64 0] (by kernel_rfl) ?_
 go_frame
 with_reducible refine bU (by rfl) 113 _ (by rfl) #[.bool false,.bool false,.int .i64 3,.int .i64 3,.int .i64 0] (by kernel_rfl) ?_
 go_frame
 with_reducible refine bU (by rfl) 113 _ (by rfl) #[.bool false,.bool false,.int .i64 2,.int .i64 8,.int .i64 0] (by kernel_rfl) ?_
 go_frame
 with_reducible refine bU (by rfl) 113 _ (by rfl) #[.bool false,.bool true,.int .i64 1,.int .i64 1,.int .i64 0] (by kernel_rfl) ?_
 go_frame
 with_reducible refine bU (by rfl) 114 _ (by rfl) fM (by kernel_rfl) ?_
 go_frame
 with_reducible refine wpList_store_row ?e1 114 (.tmp 0) (.tmp 11) ?e2 B fM ?e3 ?e4 114 zeroCells HB0.out ?e5 ?e6 ?e7 ?_
 case e1=>rfl
 case e2=>rfl
 case e3=>rfl
 case e4=>rfl
 case e5=>exact HI.out
 case e6=>rfl
 case e7=>simp [fM,Value.oneCell']
 simp only [Act.put];have hb1:=setRow_heap W0 B zeroCells fM 114 (0,0) HB0.out;have hq1:ah w (W0.setRow B fM):=Fr.trans' bD.out (S:=fun _=>False) (T:=fun k=>k=B) ⟨rfl,rfl,rfl,by simp,fun k _ hk=>setRow_other W0 B k fM hk⟩ (fun k hk e=>by have:=bY.out;omega);generalize W0.setRow B fM=W1 at *;have HB1:=hid hb1;have fD:=hid hq1;clear hb1 hq1;go_wp2_with fail;have hb1:=HB1.out;have hl:=run_loadVar_mid (P:=Tryd.prog) W1 B 0 114 fM.toList _ (fun j v hv=>by rw [cell_of_row _ _ _ _ _ (0,0) hb1,Nat.zero_add];simpa using hv) Tryd.underlying114 (by rfl) HI.out;refine bodyPost_ret (Jg (a:=0) (t:=114) (ad:=⟨B,0,none⟩) Tryd.results70 (by rfl) hl) (by rfl) ?_;exact ⟨rfl,fD.out⟩
theorem Tv (k:Int) (h1:1<=k) (h2:k<=10) (W:World):Sem.run Tryd.prog (Instr.index 114 (.agg fM) (.int .i64 k)) W=.ok (.agg #[.bool (Aa k),.bool (k == 10),.int .i64 (rC k),.int .i64 (xP k),.int .i64 (G9 k)]) W:=by
 have hk:k=1∨k=2∨k=3∨k=4∨k=5∨k=6∨k=7∨k=8∨k=9∨k=10:=by omega
 rcases hk with rfl | rfl | rfl | rfl | rfl | rfl | rfl | rfl | rfl | rfl
 all_goals rfl
theorem cells5 {w : World} {b : Nat} {a0 a1 a2 a3 a4 : Value} {t : TypeId} (h : w.heap[b]? = some (.cells #[a0, a1, a2, a3, a4] t (0, 0))) :
    w.cell? ⟨b,0,none⟩=some a0/\w.cell? ⟨b,1,none⟩=some a1/\w.cell? ⟨b,2,none⟩=some a2/\w.cell? ⟨b,3,none⟩=some a3/\w.cell? ⟨b,4,none⟩=some a4:=by
 refine ⟨?_,?_,?_,?_,?_⟩<;>(rw [cell_of_row _ _ _ _ _ (0,0) h];rfl)
theorem Xp (w:World) (b:Nat) (a0 a1 a2 a3 a4:Value):Fr (fun j=>j=b) w (((((w.setCell ⟨b,0,none⟩ a0).setCell ⟨b,1,none⟩ a1).setCell ⟨b,2,none⟩ a2).setCell ⟨b,3,none⟩ a3).setCell ⟨b,4,none⟩ a4) :=
 ((((Fr.setCell (fun j=>j=b) w ⟨b,0,none⟩ a0 rfl).trans (Fr.setCell (fun j=>j=b) _ ⟨b,1,none⟩ a1 rfl)).trans (Fr.setCell (fun j=>j=b) _ ⟨b,2,none⟩ a2 rfl)).trans (Fr.setCell (fun j=>j=b) _ ⟨b,3,none⟩ a3 rfl)).trans (Fr.setCell (fun j=>j=b) _ ⟨b,4,none⟩ a4 rfl)
theorem LH {w : World} {b : Nat} {a0 a1 a2 a3 a4 b0 b1 b2 b3 b4 : Value} {t : TypeId} (h : w.heap[b]? = some (.cells #[b0, b1, b2, b3, b4] t (0, 0))) :
    (((((w.setCell ⟨b,0,none⟩ a0).setCell ⟨b,1,none⟩ a1).setCell ⟨b,2,none⟩ a2).setCell ⟨b,3,none⟩ a3).setCell ⟨b,4,none⟩ a4).heap[b]?=some (.cells #[a0,a1,a2,a3,a4] t (0,0)):=by
 have s0:(w.setCell ⟨b,0,none⟩ a0).heap[b]?=some (.cells #[a0,b1,b2,b3,b4] t (0,0)):=aF h;have s1:((w.setCell ⟨b,0,none⟩ a0).setCell ⟨b,1,none⟩ a1).heap[b]?=some (.cells #[a0,a1,b2,b3,b4] t (0,0)):=aF s0;have s2:(((w.setCell ⟨b,0,none⟩ a0).setCell ⟨b,1,none⟩ a1).setCell ⟨b,2,none⟩ a2).heap[b]?=some (.cells #[a0,a1,a2,b3,b4] t (0,0)):=aF s1;have s3:((((w.setCell ⟨b,0,none⟩ a0).setCell ⟨b,1,none⟩ a1).setCell ⟨b,2,none⟩ a2).setCell ⟨b,3,none⟩ a3).heap[b]?=some (.cells #[a0,a1,a2,a3,b4] t (0,0)):=aF s2;exact aF s3
theorem Tz (k : Int) (hk1 : 1 <= k) (hk2 : k <= 10) (nm : ByteArray) (n tk tn : Int) (vg : Fo) (fr en : Int) (w : World) (o1 : Option Addr) (l1 c1 : Nat) (o2 : Option Addr) (l2 c2 : Nat)
    (hs:nJ w o1 l1 vg) (hnm:nm.size<=100000) (hz:vg.size<=100000) (hwn:OW tn) (hwf:wfF vg) (_:l2<=9223372036854775807) (ht:Lx.kD w) :
    Calls Tryd.prog 54 #[.agg #[.int .i64 k,.string nm,.int .i64 n,.int .i64 tk,.int .i64 tn,.slice o1 l1 c1,.slice o2 l2 c2,.int .i64 fr,.int .i64 en]] w fun e w'=>e=.returned (.bool (fK ⟨k,nm,n,tk,tn,vg,fr,en⟩ l2))/\ah w w':=by
 have Es:=hid (fun (W:World)=>LG W);have YI:=hid (fun (W:World) (h:ah w W)=>Lx.name_any nm hnm W (ht.stay h));have Ac:=hid (fun (W:World) (h:ah w W)=>TA tk tn vg 0 0 .nil W o1 l1 c1 none 0 0 (hs.stay h) (nJ.nil _ _));have BZ:=hid (fun (W:World) (h:ah w W)=>PL tk tn vg W o1 l1 c1 (hs.stay h));have NK:Hid (∀ W' b,ah w W'->W'.heap[b]?=some (.cells #[.int .i64 tk,.int .i64 tn,.slice o1 l1 c1] 25 (0,0))->Calls Tryd.prog 74 #[.slice (some ⟨b,0,none⟩) 1 1] W' fun e w'=>∃ a c,e=.returned (.slice a (Fo.vars [] (.cons tk tn vg .nil)).length c)/\ah W' w'):=by
  intro W' b h hb;refine (RZ (.cons tk tn vg .nil) W' (some ⟨b,0,none⟩) 1 1 (acO hb (hs.stay h)) ⟨hwn,hwf,trivial⟩ (by simp only [Fo.size];omega)).mono ?_;rintro e w' ⟨vo,rfl,hr,hq⟩;obtain ⟨a,c,rfl,_⟩:=hr.at;exact ⟨a,c,rfl,hq⟩
 have hix:=Tv k hk1 hk2;obtain ⟨res,hres⟩:∃ res,res=fK ⟨k,nm,n,tk,tn,vg,fr,en⟩ l2:=⟨_,rfl⟩;rw [<-hres];have TB:Hid (res=((if Aa k then Lx.nameB nm.data.toList else nm.toList.isEmpty) && (if (k == 10) then (lI tk tn vg && (Fo.vars [] (.cons tk tn vg .nil)).isEmpty) else lJ tk tn vg 0 0 .nil) && decide (0<=n) && decide (n<=G9 k) && decide (rC k<=(l2:Int)) && decide ((l2:Int)<=xP k))):=by
  show _=_
  rw [hres];unfold fK nO rD xQ;simp only [hk1,hk2,decide_true,Bool.true_and]
 clear hres hs ht hwn hwf hz hnm;generalize Aa k=sn at *;generalize (k == 10)=st at *;generalize rC k=le at *;generalize xP k=mo at *;generalize G9 k=tp at *;obtain ⟨W0,hW0⟩:∃ W0,W0=w.alloc (.cells #[.int .i64 k,.string nm,.int .i64 n,.int .i64 tk,.int .i64 tn,.slice o1 l1 c1,.slice o2 l2 c2,.int .i64 fr,.int .i64 en] 30):=⟨_,rfl⟩;obtain ⟨B,hB⟩:∃ B,B=w.heap.size:=⟨_,rfl⟩;have hb0:W0.heap[B]?=some (.cells #[.int .i64 k,.string nm,.int .i64 n,.int .i64 tk,.int .i64 tn,.slice o1 l1 c1,.slice o2 l2 c2,.int .i64 fr,.int .i64 en] 30 (0,0)):=by rw [hW0,hB];exact heap_alloc_new _ _
 have bD:Hid (ah w W0):=by rw [hW0];exact ah.alloc _ _
 have HB0:Hid (∀ W,ah W0 W->W.heap[B]?=some (.cells #[.int .i64 k,.string nm,.int .i64 n,.int .i64 tk,.int .i64 tn,.slice o1 l1 c1,.slice o2 l2 c2,.int .i64 fr,.int .i64 en] 30 (0,0))):=fun W h=>(h.block _ (lt_of_block hb0) (fun h=>h)).trans hb0
 have hBlt:B < W0.heap.size:=lt_of_block hb0;clear hb0;have HBC:Hid (∀ W,ah W0 W->W.cell? ⟨B,0,none⟩=some (.int .i64 k)):=fun W h=>by rw [cell_of_row _ _ _ _ _ (0,0) (HB0.out W h)];rfl
 have EL:Hid (∀ W,Fr (fun j=>W0.heap.size<=j) W0 W->W.cell? ⟨B,0,none⟩=some (.int .i64 k)):=fun W h=>(h.aY hBlt (fun hh=>by have h2:W0.heap.size<=B:=hh;omega)).trans (HBC.out _ (ah.refl _))
 have adP:¬ k < 1:=by omega
 have adQ:¬ 10 < k:=by omega
 clear hBlt;go_enter Tryd.func54,Tryd.ntmps54;go_upto_region 3 with fail
 change Code.wp _ _ _ _ (w.alloc (.cells #[.int .i64 k,.string nm,.int .i64 n,.int .i64 tk,.int .i64 tn,.slice o1 l1 c1,.slice o2 l2 c2,.int .i64 fr,.int .i64 en] 30));rw [<-hW0,<-hB];clear hW0 hB;go_cut [3] (fun t wx=>∃ sb:Nat,t=.pointer (some ⟨sb,0,none⟩)/\wx.heap[sb]?=some (.cells #[.bool sn,.bool st,.int .i64 le,.int .i64 mo,.int .i64 tp] 113 (0,0))/\ah W0 wx)
 case first =>
  clear TB YI Ac BZ NK;have AO:=Fr.refl (fun j=>W0.heap.size<=j) W0;have a0:=EL.out _ AO;go_region_held3 (fun w'=>w'.cell? ⟨B,0,none⟩=some (.int .i64 k))
   (((refine EL.out _ ?_);(repeat (first | with_reducible exact AO | with_reducible exact ah.fr hqc | with_reducible exact Fr.refl _ _ | with_reducible refine Fr.trans ?_ (Fr.alloc _ _ _) | with_reducible refine Fr.trans ?_ (Fr.drew _ _) | ((with_reducible refine Fr.trans ?_ (Fr.setCell _ _ _ _ ?hsd));(case hsd=>(simp<;>omega))) | fail))))
   (first
    | (go_at_call 70;(with_reducible refine Calls.mono (Es.out _) ?_);rintro e wx ⟨rfl,fJ⟩;(try (refine Tj (b:=W0.heap.size) (t:=113) (a0:=.bool false) (a1:=.bool false) (a2:=.int .i64 0) (a3:=.int .i64 0) (a4:=.int .i64 0) (au fJ ?hbk) ?_;(case hbk=>exact lD _ _ _ _ rfl);intro f0 f1 f2 f3 f4 y0 y1 y2 y3 y4 hzz));(refine Sr (S:=fun j=>W0.heap.size<=j) (w0:=W0) ?hfr fJ ?_);(case hfr=>(repeat (first | with_reducible exact AO | with_reducible exact ah.fr hqc | with_reducible exact Fr.refl _ _ | with_reducible refine Fr.trans ?_ (Fr.alloc _ _ _) | with_reducible refine Fr.trans ?_ (Fr.drew _ _) | ((with_reducible refine Fr.trans ?_ (Fr.setCell _ _ _ _ ?hsd));(case hsd=>(simp<;>omega))) | fail)));intro AO))
  all_goals
   clear hix Es a0 HBC EL HB0;generalize fM=sc at *;go_step;go_step;go_meet;refine ⟨_,rfl,?hbb,?hqq⟩
   case hbb =>
    first
    | with_reducible exact heap_alloc_new _ _
    | with_reducible exact LH hzz
   case hqq =>
    unfold ah;have h0:Fr (fun _=>False) W0 wx:=AO.mono (fun i hi h=>by have h2:W0.heap.size<=i:=h;omega)
    first
    | with_reducible exact Fr.trans h0 (Fr.alloc _ _ _)
    | (with_reducible refine Fr.trans' (T := fun j => j = W0.heap.size) h0 ?_ (fun i hi e => by omega)
       with_reducible exact Xp _ _ _ _ _ _ _)
 case rest =>
  rename World=>wx
  obtain ⟨sb,rfl,hsb,fJ⟩:=hcut;have KR:Hid (∀ W,ah wx W->W.heap[sb]?=some (.cells #[.bool sn,.bool st,.int .i64 le,.int .i64 mo,.int .i64 tp] 113 (0,0))):=fun W h=>(h.block _ (lt_of_block hsb) (fun h=>h)).trans hsb
  have yL:=hid fJ;have aQ:=TB;clear HBC EL Es hix TB hsb fJ;obtain ⟨b0,b1,b2,b3,b4,b5,b6,b7,b8⟩:=aA (h:=⟨k,nm,n,tk,tn,vg,fr,en⟩) (HB0.out _ yL.out);obtain ⟨s0,s1,s2,s3,s4⟩:=cells5 (KR.out _ (ah.refl wx));generalize lJ tk tn vg 0 0 .nil=sm at *;generalize lI tk tn vg=rt at *;generalize Fo.vars [] (.cons tk tn vg .nil)=L at *;unfold fG at Ac BZ;cases sn
  ·cases hbn:nm.toList.isEmpty
   ·have e2:¬ nm.toList=[]:=by simpa using hbn
    have e3:nm.toList.isEmpty=false:=hbn;rw [hbn] at aQ;clear hbn;have jR:=hid (ah.refl wx);cases st
    ·go_wp2_with fail;refine (Ac.out _ (bD.out.trans yL.out)).mono ?_;rintro e w5 ⟨rfl,hq5⟩;have HF:=hid ((bD.out.trans yL.out).trans hq5);have NP:=hid (yL.out.trans hq5);have vO:=hid (jR.out.trans hq5);clear hq5;clear b0 b1 b2 b3 b4 b5 b6 b7 b8 s0 s1 s2 s3 s4;obtain ⟨b0,b1,b2,b3,b4,b5,b6,b7,b8⟩:=aA (h:=⟨k,nm,n,tk,tn,vg,fr,en⟩) (HB0.out _ NP.out);obtain ⟨s0,s1,s2,s3,s4⟩:=cells5 (KR.out _ vO.out);change Hid (res=(false && sm && decide (0<=n) && decide (n<=tp) && decide (le<=(l2:Int)) && decide ((l2:Int)<=mo))) at aQ;generalize sm=bt at *;go_upto_region 11 with fail
     go_wp2_with fail
     all_goals first
     | (exfalso;omega)
     | (go_ret;exact ⟨by rw [aQ.out];simp<;>omega,HF.out⟩)
    ·go_wp2_with fail;refine (Ac.out _ (bD.out.trans yL.out)).mono ?_;rintro e w3 ⟨rfl,hq3⟩;have NQ:=hid (yL.out.trans hq3);have YJ:=hid (jR.out.trans hq3);clear hq3 b0 b1 b2 b3 b4 b5 b6 b7 b8 s0 s1 s2 s3 s4;obtain ⟨b0,b1,b2,b3,b4,b5,b6,b7,b8⟩:=aA (h:=⟨k,nm,n,tk,tn,vg,fr,en⟩) (HB0.out _ NQ.out);obtain ⟨s0,s1,s2,s3,s4⟩:=cells5 (KR.out _ YJ.out);go_wp2_with fail;refine (BZ.out _ (bD.out.trans NQ.out)).mono ?_;rintro e w5 ⟨rfl,hq5⟩;have HF:=hid ((bD.out.trans NQ.out).trans hq5);have NP:=hid (NQ.out.trans hq5);have vO:=hid (YJ.out.trans hq5);clear hq5;clear b0 b1 b2 b3 b4 b5 b6 b7 b8 s0 s1 s2 s3 s4;obtain ⟨b0,b1,b2,b3,b4,b5,b6,b7,b8⟩:=aA (h:=⟨k,nm,n,tk,tn,vg,fr,en⟩) (HB0.out _ NP.out);obtain ⟨s0,s1,s2,s3,s4⟩:=cells5 (KR.out _ vO.out);cases rt
     ·change Hid (res=(false && (false && L.isEmpty) && decide (0<=n) && decide (n<=tp) && decide (le<=(l2:Int)) && decide ((l2:Int)<=mo))) at aQ;go_upto_region 11 with fail
      go_wp2_with fail
      all_goals first
      | (exfalso;omega)
      | (go_ret;exact ⟨by rw [aQ.out];simp<;>omega,HF.out⟩)
     ·change Hid (res=(false && (true && L.isEmpty) && decide (0<=n) && decide (n<=tp) && decide (le<=(l2:Int)) && decide ((l2:Int)<=mo))) at aQ;obtain ⟨W6,uZ⟩:∃ W6,W6=w5.alloc (.cells #[.int .i64 tk,.int .i64 tn,.slice o1 l1 c1] 25):=⟨_,rfl⟩;obtain ⟨vb,hvb⟩:∃ vb,vb=w5.heap.size:=⟨_,rfl⟩;have hb6:W6.heap[vb]?=some (.cells #[.int .i64 tk,.int .i64 tn,.slice o1 l1 c1] 25 (0,0)):=by rw [uZ,hvb];exact heap_alloc_new _ _
      have yV:Hid (ah w5 W6):=by rw [uZ];exact ah.alloc _ _
      have WC:=hid (NK.out W6 vb (HF.out.trans yV.out) hb6);rw [uZ,hvb] at WC;clear hb6 uZ hvb yV;go_wp2_with fail;refine WC.out.mono ?_;rintro e w7 ⟨va,vc,rfl,hq7⟩;replace HF:=hid ((HF.out.trans (ah.alloc _ _)).trans hq7);have HG0:=hid ((NP.out.trans (ah.alloc _ _)).trans hq7);have Ru:=hid ((vO.out.trans (ah.alloc _ _)).trans hq7);clear hq7;clear b0 b1 b2 b3 b4 b5 b6 b7 b8 s0 s1 s2 s3 s4;obtain ⟨b0,b1,b2,b3,b4,b5,b6,b7,b8⟩:=aA (h:=⟨k,nm,n,tk,tn,vg,fr,en⟩) (HB0.out _ HG0.out);obtain ⟨s0,s1,s2,s3,s4⟩:=cells5 (KR.out _ Ru.out);cases L
      ·change Hid (res=(false && true && decide (0<=n) && decide (n<=tp) && decide (le<=(l2:Int)) && decide ((l2:Int)<=mo))) at aQ;have hl0:((([]:List Int).length:Nat):Int)=0:=rfl;go_upto_region 11 with fail
       go_wp2_with fail
       all_goals first
       | (exfalso;omega)
       | (go_ret;exact ⟨by rw [aQ.out];simp<;>omega,HF.out⟩)
      ·rename_i x0 r0
       change Hid (res=(false && false && decide (0<=n) && decide (n<=tp) && decide (le<=(l2:Int)) && decide ((l2:Int)<=mo))) at aQ;have hl0:¬ (((x0::r0).length:Nat):Int)=0:=by simp;omega
       generalize (((x0::r0).length:Nat))=ln at *;go_upto_region 11 with fail
       go_wp2_with fail
       all_goals first
       | (exfalso;omega)
       | (go_ret;exact ⟨by rw [aQ.out];simp<;>omega,HF.out⟩)
   ·have e2:nm.toList=[]:=by simpa using hbn
    have e3:nm.toList.isEmpty=true:=hbn;rw [hbn] at aQ;clear hbn;have jR:=hid (ah.refl wx);cases st
    ·go_wp2_with fail;refine (Ac.out _ (bD.out.trans yL.out)).mono ?_;rintro e w5 ⟨rfl,hq5⟩;have HF:=hid ((bD.out.trans yL.out).trans hq5);have NP:=hid (yL.out.trans hq5);have vO:=hid (jR.out.trans hq5);clear hq5;clear b0 b1 b2 b3 b4 b5 b6 b7 b8 s0 s1 s2 s3 s4;obtain ⟨b0,b1,b2,b3,b4,b5,b6,b7,b8⟩:=aA (h:=⟨k,nm,n,tk,tn,vg,fr,en⟩) (HB0.out _ NP.out);obtain ⟨s0,s1,s2,s3,s4⟩:=cells5 (KR.out _ vO.out);change Hid (res=(true && sm && decide (0<=n) && decide (n<=tp) && decide (le<=(l2:Int)) && decide ((l2:Int)<=mo))) at aQ;generalize sm=bt at *;go_upto_region 11 with fail
     cases bt
     ·go_wp2_with fail
      all_goals first
      | (exfalso;omega)
      | (go_ret;exact ⟨by rw [aQ.out];simp<;>omega,HF.out⟩)
     ·by_cases g1:0<=n
      ·by_cases g2:n<=tp
       ·by_cases g3:le<=(l2:Int)
        ·by_cases g4:(l2:Int)<=mo
         ·go_wp2_with fail
          all_goals first
          | (exfalso;omega)
          | (go_ret;exact ⟨by rw [aQ.out];simp [g1,g2,g3,g4]<;>omega,HF.out⟩)
         ·have g4':mo < (l2:Int):=by omega
          go_wp2_with fail
          all_goals first
          | (exfalso;omega)
          | (go_ret;exact ⟨by rw [aQ.out];simp [g1,g2,g3,g4]<;>omega,HF.out⟩)
        ·have g3':(l2:Int) < le:=by omega
         go_wp2_with fail
         all_goals first
         | (exfalso;omega)
         | (go_ret;exact ⟨by rw [aQ.out];simp<;>omega,HF.out⟩)
       ·have g2':tp < n:=by omega
        go_wp2_with fail
        all_goals first
        | (exfalso;omega)
        | (go_ret;exact ⟨by rw [aQ.out];simp<;>omega,HF.out⟩)
      ·have g1':n < 0:=by omega
       go_wp2_with fail
       all_goals first
       | (exfalso;omega)
       | (go_ret;exact ⟨by rw [aQ.out];simp<;>omega,HF.out⟩)
    ·go_wp2_with fail;refine (Ac.out _ (bD.out.trans yL.out)).mono ?_;rintro e w3 ⟨rfl,hq3⟩;have NQ:=hid (yL.out.trans hq3);have YJ:=hid (jR.out.trans hq3);clear hq3 b0 b1 b2 b3 b4 b5 b6 b7 b8 s0 s1 s2 s3 s4;obtain ⟨b0,b1,b2,b3,b4,b5,b6,b7,b8⟩:=aA (h:=⟨k,nm,n,tk,tn,vg,fr,en⟩) (HB0.out _ NQ.out);obtain ⟨s0,s1,s2,s3,s4⟩:=cells5 (KR.out _ YJ.out);go_wp2_with fail;refine (BZ.out _ (bD.out.trans NQ.out)).mono ?_;rintro e w5 ⟨rfl,hq5⟩;have HF:=hid ((bD.out.trans NQ.out).trans hq5);have NP:=hid (NQ.out.trans hq5);have vO:=hid (YJ.out.trans hq5);clear hq5;clear b0 b1 b2 b3 b4 b5 b6 b7 b8 s0 s1 s2 s3 s4;obtain ⟨b0,b1,b2,b3,b4,b5,b6,b7,b8⟩:=aA (h:=⟨k,nm,n,tk,tn,vg,fr,en⟩) (HB0.out _ NP.out);obtain ⟨s0,s1,s2,s3,s4⟩:=cells5 (KR.out _ vO.out);cases rt
     ·change Hid (res=(true && (false && L.isEmpty) && decide (0<=n) && decide (n<=tp) && decide (le<=(l2:Int)) && decide ((l2:Int)<=mo))) at aQ;go_upto_region 11 with fail
      go_wp2_with fail
      all_goals first
      | (exfalso;omega)
      | (go_ret;exact ⟨by rw [aQ.out];simp<;>omega,HF.out⟩)
     ·change Hid (res=(true && (true && L.isEmpty) && decide (0<=n) && decide (n<=tp) && decide (le<=(l2:Int)) && decide ((l2:Int)<=mo))) at aQ;obtain ⟨W6,uZ⟩:∃ W6,W6=w5.alloc (.cells #[.int .i64 tk,.int .i64 tn,.slice o1 l1 c1] 25):=⟨_,rfl⟩;obtain ⟨vb,hvb⟩:∃ vb,vb=w5.heap.size:=⟨_,rfl⟩;have hb6:W6.heap[vb]?=some (.cells #[.int .i64 tk,.int .i64 tn,.slice o1 l1 c1] 25 (0,0)):=by rw [uZ,hvb];exact heap_alloc_new _ _
      have yV:Hid (ah w5 W6):=by rw [uZ];exact ah.alloc _ _
      have WC:=hid (NK.out W6 vb (HF.out.trans yV.out) hb6);rw [uZ,hvb] at WC;clear hb6 uZ hvb yV;go_wp2_with fail;refine WC.out.mono ?_;rintro e w7 ⟨va,vc,rfl,hq7⟩;replace HF:=hid ((HF.out.trans (ah.alloc _ _)).trans hq7);have HG0:=hid ((NP.out.trans (ah.alloc _ _)).trans hq7);have Ru:=hid ((vO.out.trans (ah.alloc _ _)).trans hq7);clear hq7;clear b0 b1 b2 b3 b4 b5 b6 b7 b8 s0 s1 s2 s3 s4;obtain ⟨b0,b1,b2,b3,b4,b5,b6,b7,b8⟩:=aA (h:=⟨k,nm,n,tk,tn,vg,fr,en⟩) (HB0.out _ HG0.out);obtain ⟨s0,s1,s2,s3,s4⟩:=cells5 (KR.out _ Ru.out);cases L
      ·change Hid (res=(true && true && decide (0<=n) && decide (n<=tp) && decide (le<=(l2:Int)) && decide ((l2:Int)<=mo))) at aQ;have hl0:((([]:List Int).length:Nat):Int)=0:=rfl;go_upto_region 11 with fail
       by_cases g1:0<=n
       ·by_cases g2:n<=tp
        ·by_cases g3:le<=(l2:Int)
         ·by_cases g4:(l2:Int)<=mo
          ·go_wp2_with fail
           all_goals first
           | (exfalso;omega)
           | (go_ret;exact ⟨by rw [aQ.out];simp [g1,g2,g3,g4]<;>omega,HF.out⟩)
          ·have g4':mo < (l2:Int):=by omega
           go_wp2_with fail
           all_goals first
           | (exfalso;omega)
           | (go_ret;exact ⟨by rw [aQ.out];simp [g1,g2,g3,g4]<;>omega,HF.out⟩)
         ·have g3':(l2:Int) < le:=by omega
          go_wp2_with fail
          all_goals first
          | (exfalso;omega)
          | (go_ret;exact ⟨by rw [aQ.out];simp<;>omega,HF.out⟩)
        ·have g2':tp < n:=by omega
         go_wp2_with fail
         all_goals first
         | (exfalso;omega)
         | (go_ret;exact ⟨by rw [aQ.out];simp<;>omega,HF.out⟩)
       ·have g1':n < 0:=by omega
        go_wp2_with fail
        all_goals first
        | (exfalso;omega)
        | (go_ret;exact ⟨by rw [aQ.out];simp<;>omega,HF.out⟩)
      ·rename_i x0 r0
       change Hid (res=(true && false && decide (0<=n) && decide (n<=tp) && decide (le<=(l2:Int)) && decide ((l2:Int)<=mo))) at aQ;have hl0:¬ (((x0::r0).length:Nat):Int)=0:=by simp;omega
       generalize (((x0::r0).length:Nat))=ln at *;go_upto_region 11 with fail
       go_wp2_with fail
       all_goals first
       | (exfalso;omega)
       | (go_ret;exact ⟨by rw [aQ.out];simp<;>omega,HF.out⟩)
  ·go_wp2_with fail;refine (YI.out _ (bD.out.trans yL.out)).mono ?_;rintro e w4 ⟨rfl,hq4⟩;have HX0:=hid (yL.out.trans hq4);have jR:=hid hq4;clear hq4;clear b0 b1 b2 b3 b4 b5 b6 b7 b8 s0 s1 s2 s3 s4;obtain ⟨b0,b1,b2,b3,b4,b5,b6,b7,b8⟩:=aA (h:=⟨k,nm,n,tk,tn,vg,fr,en⟩) (HB0.out _ HX0.out);obtain ⟨s0,s1,s2,s3,s4⟩:=cells5 (KR.out _ jR.out);generalize Lx.nameB nm.data.toList=bn at *;cases st
   ·go_wp2_with fail;refine (Ac.out _ (bD.out.trans HX0.out)).mono ?_;rintro e w5 ⟨rfl,hq5⟩;have HF:=hid ((bD.out.trans HX0.out).trans hq5);have NP:=hid (HX0.out.trans hq5);have vO:=hid (jR.out.trans hq5);clear hq5;clear b0 b1 b2 b3 b4 b5 b6 b7 b8 s0 s1 s2 s3 s4;obtain ⟨b0,b1,b2,b3,b4,b5,b6,b7,b8⟩:=aA (h:=⟨k,nm,n,tk,tn,vg,fr,en⟩) (HB0.out _ NP.out);obtain ⟨s0,s1,s2,s3,s4⟩:=cells5 (KR.out _ vO.out);change Hid (res=(bn && sm && decide (0<=n) && decide (n<=tp) && decide (le<=(l2:Int)) && decide ((l2:Int)<=mo))) at aQ;generalize sm=bt at *;go_upto_region 11 with fail
    cases bn
    ·go_wp2_with fail
     all_goals first
     | (exfalso;omega)
     | (go_ret;exact ⟨by rw [aQ.out];simp<;>omega,HF.out⟩)
    ·cases bt
     ·go_wp2_with fail
      all_goals first
      | (exfalso;omega)
      | (go_ret;exact ⟨by rw [aQ.out];simp<;>omega,HF.out⟩)
     ·by_cases g1:0<=n
      ·by_cases g2:n<=tp
       ·by_cases g3:le<=(l2:Int)
        ·by_cases g4:(l2:Int)<=mo
         ·go_wp2_with fail
          all_goals first
          | (exfalso;omega)
          | (go_ret;exact ⟨by rw [aQ.out];simp [g1,g2,g3,g4]<;>omega,HF.out⟩)
         ·have g4':mo < (l2:Int):=by omega
          go_wp2_with fail
          all_goals first
          | (exfalso;omega)
          | (go_ret;exact ⟨by rw [aQ.out];simp [g1,g2,g3,g4]<;>omega,HF.out⟩)
        ·have g3':(l2:Int) < le:=by omega
         go_wp2_with fail
         all_goals first
         | (exfalso;omega)
         | (go_ret;exact ⟨by rw [aQ.out];simp<;>omega,HF.out⟩)
       ·have g2':tp < n:=by omega
        go_wp2_with fail
        all_goals first
        | (exfalso;omega)
        | (go_ret;exact ⟨by rw [aQ.out];simp<;>omega,HF.out⟩)
      ·have g1':n < 0:=by omega
       go_wp2_with fail
       all_goals first
       | (exfalso;omega)
       | (go_ret;exact ⟨by rw [aQ.out];simp<;>omega,HF.out⟩)
   ·go_wp2_with fail;refine (Ac.out _ (bD.out.trans HX0.out)).mono ?_;rintro e w3 ⟨rfl,hq3⟩;have NQ:=hid (HX0.out.trans hq3);have YJ:=hid (jR.out.trans hq3);clear hq3 b0 b1 b2 b3 b4 b5 b6 b7 b8 s0 s1 s2 s3 s4;obtain ⟨b0,b1,b2,b3,b4,b5,b6,b7,b8⟩:=aA (h:=⟨k,nm,n,tk,tn,vg,fr,en⟩) (HB0.out _ NQ.out);obtain ⟨s0,s1,s2,s3,s4⟩:=cells5 (KR.out _ YJ.out);go_wp2_with fail;refine (BZ.out _ (bD.out.trans NQ.out)).mono ?_;rintro e w5 ⟨rfl,hq5⟩;have HF:=hid ((bD.out.trans NQ.out).trans hq5);have NP:=hid (NQ.out.trans hq5);have vO:=hid (YJ.out.trans hq5);clear hq5;clear b0 b1 b2 b3 b4 b5 b6 b7 b8 s0 s1 s2 s3 s4;obtain ⟨b0,b1,b2,b3,b4,b5,b6,b7,b8⟩:=aA (h:=⟨k,nm,n,tk,tn,vg,fr,en⟩) (HB0.out _ NP.out);obtain ⟨s0,s1,s2,s3,s4⟩:=cells5 (KR.out _ vO.out);cases rt
    ·change Hid (res=(bn && (false && L.isEmpty) && decide (0<=n) && decide (n<=tp) && decide (le<=(l2:Int)) && decide ((l2:Int)<=mo))) at aQ;go_upto_region 11 with fail
     cases bn
     ·go_wp2_with fail
      all_goals first
      | (exfalso;omega)
      | (go_ret;exact ⟨by rw [aQ.out];simp<;>omega,HF.out⟩)
     ·go_wp2_with fail
      all_goals first
      | (exfalso;omega)
      | (go_ret;exact ⟨by rw [aQ.out];simp<;>omega,HF.out⟩)
    ·change Hid (res=(bn && (true && L.isEmpty) && decide (0<=n) && decide (n<=tp) && decide (le<=(l2:Int)) && decide ((l2:Int)<=mo))) at aQ;obtain ⟨W6,uZ⟩:∃ W6,W6=w5.alloc (.cells #[.int .i64 tk,.int .i64 tn,.slice o1 l1 c1] 25):=⟨_,rfl⟩;obtain ⟨vb,hvb⟩:∃ vb,vb=w5.heap.size:=⟨_,rfl⟩;have hb6:W6.heap[vb]?=some (.cells #[.int .i64 tk,.int .i64 tn,.slice o1 l1 c1] 25 (0,0)):=by rw [uZ,hvb];exact heap_alloc_new _ _
     have yV:Hid (ah w5 W6):=by rw [uZ];exact ah.alloc _ _
     have WC:=hid (NK.out W6 vb (HF.out.trans yV.out) hb6);rw [uZ,hvb] at WC;clear hb6 uZ hvb yV;go_wp2_with fail;refine WC.out.mono ?_;rintro e w7 ⟨va,vc,rfl,hq7⟩;replace HF:=hid ((HF.out.trans (ah.alloc _ _)).trans hq7);have HG0:=hid ((NP.out.trans (ah.alloc _ _)).trans hq7);have Ru:=hid ((vO.out.trans (ah.alloc _ _)).trans hq7);clear hq7;clear b0 b1 b2 b3 b4 b5 b6 b7 b8 s0 s1 s2 s3 s4;obtain ⟨b0,b1,b2,b3,b4,b5,b6,b7,b8⟩:=aA (h:=⟨k,nm,n,tk,tn,vg,fr,en⟩) (HB0.out _ HG0.out);obtain ⟨s0,s1,s2,s3,s4⟩:=cells5 (KR.out _ Ru.out);cases L
     ·change Hid (res=(bn && true && decide (0<=n) && decide (n<=tp) && decide (le<=(l2:Int)) && decide ((l2:Int)<=mo))) at aQ;have hl0:((([]:List Int).length:Nat):Int)=0:=rfl;go_upto_region 11 with fail
      cases bn
      ·go_wp2_with fail
       all_goals first
       | (exfalso;omega)
       | (go_ret;exact ⟨by rw [aQ.out];simp<;>omega,HF.out⟩)
      ·by_cases g1:0<=n
       ·by_cases g2:n<=tp
        ·by_cases g3:le<=(l2:Int)
         ·by_cases g4:(l2:Int)<=mo
          ·go_wp2_with fail
           all_goals first
           | (exfalso;omega)
           | (go_ret;exact ⟨by rw [aQ.out];simp [g1,g2,g3,g4]<;>omega,HF.out⟩)
          ·have g4':mo < (l2:Int):=by omega
           go_wp2_with fail
           all_goals first
           | (exfalso;omega)
           | (go_ret;exact ⟨by rw [aQ.out];simp [g1,g2,g3,g4]<;>omega,HF.out⟩)
         ·have g3':(l2:Int) < le:=by omega
          go_wp2_with fail
          all_goals first
          | (exfalso;omega)
          | (go_ret;exact ⟨by rw [aQ.out];simp<;>omega,HF.out⟩)
        ·have g2':tp < n:=by omega
         go_wp2_with fail
         all_goals first
         | (exfalso;omega)
         | (go_ret;exact ⟨by rw [aQ.out];simp<;>omega,HF.out⟩)
       ·have g1':n < 0:=by omega
        go_wp2_with fail
        all_goals first
        | (exfalso;omega)
        | (go_ret;exact ⟨by rw [aQ.out];simp<;>omega,HF.out⟩)
     ·rename_i x0 r0
      change Hid (res=(bn && false && decide (0<=n) && decide (n<=tp) && decide (le<=(l2:Int)) && decide ((l2:Int)<=mo))) at aQ;have hl0:¬ (((x0::r0).length:Nat):Int)=0:=by simp;omega
      generalize (((x0::r0).length:Nat))=ln at *;go_upto_region 11 with fail
      cases bn
      ·go_wp2_with fail
       all_goals first
       | (exfalso;omega)
       | (go_ret;exact ⟨by rw [aQ.out];simp<;>omega,HF.out⟩)
      ·go_wp2_with fail
       all_goals first
       | (exfalso;omega)
       | (go_ret;exact ⟨by rw [aQ.out];simp<;>omega,HF.out⟩)
end
section
open Go.RowKit
def rE:List Value->List Nd->Prop
 | xs,[]=>xs=[]
 | xs,h::r=>∃ o1 l1 c1 o2 l2 c2 ys,xs=(cells9 h o1 l1 c1 o2 l2 c2).toList++ys/\rE ys r
theorem rE.app:∀ (l l':List Nd) (xs ys:List Value),rE xs l->rE ys l'->rE (xs++ys) (l++l')
 | [],l',xs,ys,h,h'=>by cases h;exact h'
 | t::r,l',xs,ys,h,h'=>by
  obtain ⟨o1,l1,c1,o2,l2,c2,zs,rfl,hr⟩:=h;exact ⟨o1,l1,c1,o2,l2,c2,_,by rw [List.append_assoc],rE.app r l' zs ys hr h'⟩
theorem rE.get:∀ (l:List Nd) (xs:List Value) (i:Nat) (t:Nd),rE xs l->l[i]?=some t->∃ o1 l1 c1 o2 l2 c2,∀ j,j < 9->xs[i*9+j]?=(cells9 t o1 l1 c1 o2 l2 c2)[j]?
 | [],xs,i,t,_,h=>by simp at h
 | u::r,xs,0,t,h,hi=>by
  obtain ⟨o1,l1,c1,o2,l2,c2,ys,rfl,hr⟩:=h;simp at hi;subst hi;refine ⟨o1,l1,c1,o2,l2,c2,fun j hj=>?_⟩;rw [Nat.zero_mul,Nat.zero_add,List.getElem?_append_left (by simpa using hj)];simp
 | u::r,xs,i+1,t,h,hi=>by
  obtain ⟨o1,l1,c1,o2,l2,c2,ys,rfl,hr⟩:=h;obtain ⟨p1,m1,d1,p2,m2,d2,hj⟩:=rE.get r ys i t hr (by simpa using hi);refine ⟨p1,m1,d1,p2,m2,d2,fun j hj'=>?_⟩;rw [List.getElem?_append_right (by simp;omega),<-hj j hj']
  congr 1
  simp;omega
theorem rE.one:∀ (l:List Nd) (xs:List Value),rE xs l->∀ u∈xs,u.oneCell'=true
 | [],xs,h,u,hu=>by cases h;simp at hu
 | t::r,xs,h,u,hu=>by
  obtain ⟨o1,l1,c1,o2,l2,c2,ys,rfl,hr⟩:=h;rcases List.mem_append.1 hu with h | h
  ·simp at h;rcases h with h | h | h | h | h | h | h | h | h<;>subst h<;>rfl
  ·exact rE.one r ys hr u h
def gY (B:Nat) (W:World) (o:Option Addr) (c:Nat) (l:List Nd) (xs:List Value):Prop :=
 W.ownsRow 0 30 9 (.slice o l.length c) l.length xs/\rE xs l/\∀ k,(Value.slice o l.length c).ownBlock=some k->B<=k
theorem gY.stay {B:Nat} {W W':World} {o:Option Addr} {c:Nat} {l:List Nd} {xs:List Value} (h:gY B W o c l xs) (hq:ah W W'):gY B W' o c l xs :=
 ⟨aU h.1 hq (fun _ _ h=>h),h.2⟩
def Bg (w:World) (o:Option Addr) (l:List Nd):Prop:=∀ i t,l[i]?=some t->∃ b off o1 l1 c1 o2 l2 c2,o=some ⟨b,off,none⟩/\dL w b (off+i*9) t o1 l1 c1 o2 l2 c2
theorem Bg.stay {w w':World} {o:Option Addr} {l:List Nd} (h:Bg w o l) (hq:ah w w'):Bg w' o l:=by
 intro i t ht;obtain ⟨b,off,o1,l1,c1,o2,l2,c2,ho,hc⟩:=h i t ht;exact ⟨b,off,o1,l1,c1,o2,l2,c2,ho,hc.fr hq (fun h=>h)⟩
theorem gY.heads {B:Nat} {W:World} {o:Option Addr} {c:Nat} {l:List Nd} {xs:List Value} (h:gY B W o c l xs):Bg W o l:=by
 intro i t ht;rcases h.1.2 with ⟨_,h0⟩ | ⟨g,cap',cur,he,_⟩
 ·rw [List.length_eq_zero_iff.1 h0] at ht;simp at ht
 ·injection he with h1 h2 h3
  subst h1;obtain ⟨o1,l1,c1,o2,l2,c2,hj⟩:=rE.get l xs i t h.2.1 ht;have hc:∀ j,j < 9->W.cell? ⟨g,i*9+j,none⟩=(cells9 t o1 l1 c1 o2 l2 c2)[j]?:=by
   intro j h8;have e:=hj j h8;rw [Array.getElem?_eq_getElem (by simpa using h8)] at e ⊢;have:=h.1.cells (g:=g) rfl (i*9+j) _ e;simpa [Addr.add_lit] using this
  refine ⟨g,0,o1,l1,c1,o2,l2,c2,rfl,?_⟩;rw [Nat.zero_add];exact ⟨hc 0 (by omega),hc 1 (by omega),hc 2 (by omega),hc 3 (by omega),hc 4 (by omega),hc 5 (by omega),hc 6 (by omega),hc 7 (by omega),hc 8 (by omega)⟩
def hds (f:To):List Nd:=f.flat.map (·.1)
theorem Cb (h:Nd) (ps r:To):hds (.cons h ps r)=(h::hds ps)++hds r:=by simp [hds,To.flat]
theorem wC (f:To):(hds f).length=f.size:=by unfold hds;rw [List.length_map,To.flat_length]
def Ad (w:World) (l:List Nd) (e:Ending) (w':World):Prop:=∃ o c xs,e=.returned (.slice o l.length c)/\gY w.heap.size w' o c l xs/\ah w w'
def TD (h:Nd) (ps:To):Prop:=∀ (w:World) (R:Nat->Prop) (o1:Option Addr) (l1 c1:Nat) (o2:Option Addr) (l2 c2:Nat),bC R w o2 l2 ps->ps.size<=100000 ->
 Calls Tryd.prog 10 #[bP h o1 l1 c1 o2 l2 c2] w (Ad w (h::hds ps))
theorem He (h:Nd) (ps:To):TD h ps:=by
 refine To.uY (T:=TD) ?_ h ps;intro h ps ih w R o1 l1 c1 o2 l2 c2 hs hsz;have HS:=hid hs;have IH:=hid ih;have hl:=hs.1;have hll:=To.length_le ps;rw [<-hl] at hll;have HL:=hid hl;clear hs ih hl;unfold bP;go_enter Tryd.func10,Tryd.ntmps10;go_wp2_with fail;obtain ⟨W0,hW0⟩:∃ W0,W0=w.alloc (.cells (cells9 h o1 l1 c1 o2 l2 c2) 30):=⟨_,rfl⟩;have HB:Hid (∀ W,ah W0 W->W.cell? ⟨w.heap.size,6,none⟩=some (.slice o2 l2 c2)):=by
  intro W hq;rw [hW0] at hq;exact (PI w h o1 l1 c1 o2 l2 c2 _ W hq).2.2.2.2.2.2.1
 have bD:Hid (ah w W0):=by rw [hW0];exact ah.alloc _ _
 have hz0:W0.heap.size=w.heap.size+1:=by rw [hW0];simp
 obtain ⟨W1,hW1⟩:∃ W1,W1=W0.alloc (.cells (cells9 h o1 l1 c1 o2 l2 c2) 30):=⟨_,rfl⟩;have hnew:=heap_alloc_new W0 (.cells (cells9 h o1 l1 c1 o2 l2 c2) 30);rw [<-hW1,hz0] at hnew;have fD:Hid (ah W0 W1):=by rw [hW1];exact ah.alloc _ _
 have kZ:Hid (gY (w.heap.size+1) W1 (some ⟨w.heap.size+1,0,none⟩) 1 [h] (cells9 h o1 l1 c1 o2 l2 c2).toList):=by
  refine ⟨⟨rfl,.inr ⟨w.heap.size+1,1,cells9 h o1 l1 c1 o2 l2 c2,rfl,Nat.zero_le _,hnew,Nat.le_refl _,by decide,rfl,rfl⟩⟩,?_,?_⟩
  ·exact ⟨o1,l1,c1,o2,l2,c2,[],by simp,rfl⟩
  ·intro k hk;simp [Value.ownBlock] at hk;omega
 change Code.wp _ _ _ _ ((w.alloc (.cells (cells9 h o1 l1 c1 o2 l2 c2) 30)).alloc (.cells (cells9 h o1 l1 c1 o2 l2 c2) 30));rw [<-hW0,<-hW1];clear hW0 hW1 hnew;have HZ:=hid hz0;clear hz0;generalize hnb:w.heap.size=nb at *;have yM:=hid hnb;clear hnb;go_loopw [3,4] (fun s t wr=>∃ (i n c:Nat) (o:Option Addr) (l:List Nd) (xs:List Value),t=.int .i64 i/\s=.slice o n c/\i<=l2/\l.length=n/\l++hds (ps.drop i)=h::hds ps/\gY (nb+1) wr o c l xs/\ah W0 wr) (fun _ t _=>l2-(intOf t).toNat)
 case atStart=>exact ⟨0,1,1,_,[h],_,rfl,rfl,Nat.zero_le _,rfl,by rw [To.drop_zero];rfl,kZ.out,fD.out⟩
 case round =>
  obtain ⟨i,n,c,o,l,xs,rfl,rfl,hi,hln,hn,hrow,hq⟩:=hrel;have hsz2:n+(ps.drop i).size=ps.size+1:=by
   have:=congrArg List.length hn;simp only [List.length_append,List.length_cons,wC] at this;omega
  have qX:=hid hln;have HN:=hid hn;have HR:=hid hrow;have HQ:=hid hq;have cc:=HB.out wr hq;have hnb:n<=100001:=by omega
  clear hn hrow hq hln hsz2
  by_cases hlt:i < l2
  ·have hlt':(i:Int) < l2:=by omega
   obtain ⟨b,off,hd,qs,p1,m1,d1,p2,m2,d2,rfl,hd1,hg,hRb,⟨e0,e1,e2,e3,e4,e5,e6,e7,e8⟩,hs1,ht1⟩:=(HS.out.stay (bD.out.trans HQ.out)).nth hlt;have Jf:=To.dG ps i hd qs hg;have HC:=hid (IH.out i hd qs hg wr R p1 m1 d1 p2 m2 d2 ht1 (by omega));have HD:Hid ((l++(hd::hds qs))++hds (ps.drop (i+1))=h::hds ps):=by
    have:=HN.out;rw [hd1,Cb] at this;show _=_;rw [<-this,List.append_assoc]
   have hlq:(hd::hds qs).length=qs.size+1:=by rw [List.length_cons,wC]
   have hqz:qs.size+1<=100001:=by omega
   have HLQ:=hid hlq;unfold bP at HC;clear hd1 hg hs1 ht1 Jf hRb hlq;go_wp2_with fail;refine HC.out.mono ?_;rintro e w1 ⟨q,d,ys,rfl,hrow1,hq1⟩;rw [HLQ.out];have TG:=hid (HQ.out.trans hq1);have HR1:=hid (HR.out.stay hq1);have HR2:=hid hrow1;have HBZ:Hid (nb+1<=w1.heap.size):=by have:=TG.out.size;have:=HZ.out;show _<=_;omega
   have Zw:Hid (∀ j u,ys[j]?=some u->∃ a,q=some a/\w1.cell? (a.add j)=some u):=by
    intro j u hu;rcases hrow1.1.2 with ⟨_,h2⟩ | ⟨g,cap',cur,he,_⟩
    ·simp at h2
    ·injection he with h1 h2 h3
     subst h1;exact ⟨_,rfl,hrow1.1.cells rfl j u hu⟩
   clear hq1 hrow1 cc;go_wp2_with (at_builtin;(refine lK w1 rfl (.tmp 14) (.tmp 20) 26 rfl 30 _ 9 112 sZ (.slice o n c) n xs rfl (qX.out ▸ HR1.out.1) q (qs.size+1) d ys rfl (by have:=HR2.out.1.1;rw [HLQ.out] at this;exact this) Zw.out (rE.one _ _ HR2.out.2.1) (by unfold maxLen;omega) (by omega) ?_);intro o3 c3 w3 ho hf hob hnil);have rF:Hid ((l++(hd::hds qs)).length=n+(qs.size+1)):=by show _=_;rw [List.length_append,qX.out,HLQ.out]
   have HR3:Hid (gY (nb+1) w3 o3 c3 (l++(hd::hds qs)) (xs++ys)):=by
    refine ⟨by rw [rF.out];exact ho,rE.app _ _ _ _ HR1.out.2.1 HR2.out.2.1,?_⟩;rw [rF.out];intro k hk;rcases hob with h | h
    ·exact HR1.out.2.2 k (by rw [qX.out,<-h];exact hk)
    ·rw [h] at hk;cases hk;exact HBZ.out
   have qI:Hid (ah W0 w3):=Fr.trans' TG.out hf (fun k hk hs=>by have:=HR1.out.2.2 k (by rw [qX.out];exact hs);have:=HZ.out;omega);clear ho hf hob hnil;go_wp2_with fail;go_roundw
   case rel=>exact ⟨i+1,n+(qs.size+1),c3,o3,_,xs++ys,by go_num,rfl,by omega,rF.out,HD.out,HR3.out,qI.out⟩
   case measure=>simp [intOf];omega
  ·have hlt':¬ (i:Int) < l2:=by omega
   have HE:Hid (l=h::hds ps):=by
    have:=HN.out;rw [To.drop_end ps i (by have:=HL.out;omega)] at this
    show _=_
    simpa [hds,To.flat] using this
   go_wp2_with fail;go_ret;rw [<-HE.out];refine ⟨o,c,xs,by rw [qX.out];rfl,⟨HR.out.1,HR.out.2.1,fun k hk=>by have:=HR.out.2.2 k hk;have:=yM.out;omega⟩,bD.out.trans HQ.out⟩
end
section
open Go.RowKit Go.Shelf
attribute [local go_sem] Oper.semAt_some
theorem PN {R:Nat->Prop} {i:Nat} {x:Nd × To} {va:Array Value} {W:World} (h:Ze R i x va W):va.size=2:=by
 obtain ⟨o1,l1,c1,o2,l2,c2,rfl,_⟩:=h;rfl
end
end Go.Proofs.YtcninopmelmajaaDoor
