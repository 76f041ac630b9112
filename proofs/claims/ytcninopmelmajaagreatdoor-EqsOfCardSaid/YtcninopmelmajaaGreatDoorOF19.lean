/-
  Texts laid together (TeRef, TeSound): laws and walks, with their conditions.
-/
import Derived.Deep.MidRow
import Derived.Test.YtcninopmelmajaaGreatDoorOF18
set_option maxHeartbeats 8000000
set_option maxRecDepth 1000000
namespace Go.Proofs.YtcninopmelmajaaGreatDoor
open Go.Lib (hid)
section
open Go.RowKit
theorem IQ (w:World) (h:Nd) (o1:Option Addr) (l1 c1:Nat) (o2:Option Addr) (l2 c2:Nat) (t:TypeId) (W:World) (hq:ah (w.alloc (.cells (cells9 h o1 l1 c1 o2 l2 c2) t)) W):dJ W w.heap.size 0 h o1 l1 c1 o2 l2 c2 :=
 (wB w h o1 l1 c1 o2 l2 c2 t).fr hq (fun h=>h)
end
section
open Go.RowKit
def fQ (k:Int):Bool:=k == 1 || k == 4 || k == 6 || k == 7
def pz (k:Int):Int:=if k == 1 then 9223372036854775807 else if k == 2 then 999999999 else if k == 3 then 1 else 0
def jD (k:Int):Int:=if k == 4 || k == 10 then 1 else if k == 5 || k == 6 || k == 7 || k == 9 then 2 else if k == 8 then 3 else 0
def nK (k:Int):Int:=if k == 4 || k == 10 then 1 else if k == 5 || k == 6 || k == 7 then 2 else if k == 8 then 3 else if k == 9 then 8 else 0
def uN (tk tn:Int) (tp:Fo):Bool:=iI tk tn tp && (Fo.vars [] (.cons tk tn tp .nil)).isEmpty
def fZ (h:Nd):Bool:=if fQ h.k then Lx.nameB h.nm.data.toList else h.nm.toList.isEmpty
def eY (h:Nd):Bool:=if h.k == 10 then uN h.tk h.tn h.tp else gG h.tk h.tn h.tp 0 0 .nil
def aI (h:Nd) (m:Nat):Bool :=
 decide (1<=h.k) && decide (h.k<=10) && fZ h && eY h && decide (0<=h.n) && decide (h.n<=pz h.k) && decide (jD h.k<=m) && decide ((m:Int)<=nK h.k)
def gI:Array Value:=#[
 .bool false,.bool false,.int .i64 0,.int .i64 0,.int .i64 0,
 .bool true,.bool false,.int .i64 0,.int .i64 0,.int .i64 9223372036854775807,
 .bool false,.bool false,.int .i64 0,.int .i64 0,.int .i64 999999999,
 .bool false,.bool false,.int .i64 0,.int .i64 0,.int .i64 1,
 .bool true,.bool false,.int .i64 1,.int .i64 1,.int .i64 0,
 .bool false,.bool false,.int .i64 2,.int .i64 2,.int .i64 0,
 .bool true,.bool false,.int .i64 2,.int .i64 2,.int .i64 0,
 .bool true,.bool false,.int .i64 2,.int .i64 2,.int .i64 0,
 .bool false,.bool false,.int .i64 3,.int .i64 3,.int .i64 0,
 .bool false,.bool false,.int .i64 2,.int .i64 8,.int .i64 0,
 .bool false,.bool true,.int .i64 1,.int .i64 1,.int .i64 0]
theorem IU {P:Program} {fn:Func} {tmps:Array Value} {t:TypeId} {a:Tmp} {ad:Addr} {v:Value} {w:World} (hr:fn.results=#[.cell a t]) (hx:tmps.getD a undef=.pointer (some ad)) (hl:(loadVar t ad).run P w=.ok v w):(results fn tmps).run P w=.ok v w:=by
 have hx2:tmps[a]?.getD undef=.pointer (some ad):=by simpa using hx
 simp [results,hr,asAddr,hx2,hl]
theorem bW {P : Program} {ops : Array Oper} {rest : List Oper} {o : Oper} {a : Act} {w : World} {Q : Exit -> Act -> World -> Prop} (hg : o.guard = none) (t : TypeId) (parts : Array (Nat × Operand)) (ho : o.op = .build t parts)
    (cs:Array Value) (hc:P.built t (parts.map fun (i,x)=>(i,a.eval x)).toList=some cs)
    (h:wpList P ops Q rest (a.put o.dst (.agg cs)) w):wpList P ops Q (o::rest) a w :=
 wpList_build hg t parts ho (by rw [hc];rfl) (by rw [hc];exact h)
def zeroCells:Array Value:=#[
 .bool false,.bool false,.int .i64 0,.int .i64 0,.int .i64 0,.bool false,.bool false,.int .i64 0,.int .i64 0,.int .i64 0,
 .bool false,.bool false,.int .i64 0,.int .i64 0,.int .i64 0,.bool false,.bool false,.int .i64 0,.int .i64 0,.int .i64 0,
 .bool false,.bool false,.int .i64 0,.int .i64 0,.int .i64 0,.bool false,.bool false,.int .i64 0,.int .i64 0,.int .i64 0,
 .bool false,.bool false,.int .i64 0,.int .i64 0,.int .i64 0,.bool false,.bool false,.int .i64 0,.int .i64 0,.int .i64 0,
 .bool false,.bool false,.int .i64 0,.int .i64 0,.int .i64 0,.bool false,.bool false,.int .i64 0,.int .i64 0,.int .i64 0,
 .bool false,.bool false,.int .i64 0,.int .i64 0,.int .i64 0]
theorem KW (w:World):Calls Tryz.prog 85 #[] w fun e w'=>e=.returned (.agg gI)/\ah w w':=by
 obtain ⟨W0,hW0⟩:∃ W0,W0=w.alloc (.cells zeroCells 137):=⟨_,rfl⟩;obtain ⟨B,hB⟩:∃ B,B=w.heap.size:=⟨_,rfl⟩;have hb0:W0.heap[B]?=some (.cells zeroCells 137 (0,0)):=by rw [hW0,hB];exact heap_alloc_new _ _
 have aP:Hid (ah w W0):=by rw [hW0];exact ah.alloc _ _
 have HB0:=hid hb0;have cO:=hid hB;have hi:(Tryz.prog.info? 137).map (·.size)=some 55:=by kernel_rfl
 have HI:=hid hi;clear hi hb0;go_enter Tryz.func85,Tryz.ntmps85;go_upto_region 1 with fail
 change Code.wp _ _ _ _ (w.alloc (.cells zeroCells 137));rw [<-hW0,<-hB];clear hW0 hB;refine wp_region_lit ?_
 with_reducible refine bW (by rfl) 136 _ (by rfl) #[.bool true,.bool false,.int .i64 0,.int .i64 0,.int .i64 9223372036854775807] (by kernel_rfl) ?_
 go_frame
 with_reducible refine bW (by rfl) 136 _ (by rfl) #[.bool false,.bool false,.int .i64 0,.int .i64 0,.int .i64 999999999] (by kernel_rfl) ?_
 go_frame
 with_reducible refine bW (by rfl) 136 _ (by rfl) #[.bool false,.bool false,.int .i64 0,.int .i64 0,.int .i64 1] (by kernel_rfl) ?_
 go_frame
 with_reducible refine bW (by rfl) 136 _ (by rfl) #[.bool true,.bool false,.int .i64 1,.int .i64 1,.int .i64 0] (by kernel_rfl) ?_
 go_frame
 with_reducible refine bW (by rfl) 136 _ (by rfl) #[.bool false,.bool false,.int .i64 2,.int .i64 2,.int .i64 0] (by kernel_rfl) ?_
 go_frame
 with_reducible refine bW (by rfl) 136 _ (by rfl) #[.bool true,.bool false,.int .i64 2,.int .i64 2,.int .i64 0] (by kernel_rfl) ?_
 go_frame
 with_reducible refine bW (by rfl) 136 _ (by rfl) #[.bool true,.bool false,.int .i64 2,.int .i64 2,.int .i64 0] (by kernel_rfl) ?_
 go_frame
 with_reducible refine bW (by rfl) 136 _ (by rfl) #[.bool false,.bool false,.int .i64 3,.int .i64 3,.int .i64 0] (by kernel_rfl) ?_
 go_frame
 with_reducible refine bW (by rfl) 136 _ (by rfl) #[.bool false,.bool false,.int .i64 2,.int .i64 8,.int .i64 0] (by kernel_rfl) ?_
 go_frame
 with_reducible refine bW (by rfl) 136 _ (by rfl) #[.bool false,.bool true,.int .i64 1,.int .i64 1,.int .i64 0] (by kernel_rfl) ?_
 go_frame
 with_reducible refine bW (by rfl) 137 _ (by rfl) gI (by kernel_rfl) ?_
 go_frame
 with_reducible refine wpList_store_row ?e1 137 (.tmp 0) (.tmp 11) ?e2 B gI ?e3 ?e4 137 zeroCells HB0.out ?e5 ?e6 ?e7 ?_
 case e1=>rfl
 case e2=>rfl
 case e3=>rfl
 case e4=>rfl
 case e5=>exact HI.out
 case e6=>rfl
 case e7=>simp [gI,Value.oneCell']
 simp only [Act.put];have hb1:=setRow_heap W0 B zeroCells gI 137 (0,0) HB0.out;have hq1:ah w (W0.setRow B gI):=Fr.trans' aP.out (S:=fun _=>False) (T:=fun k=>k=B) ⟨rfl,rfl,rfl,by simp,fun k _ hk=>setRow_other W0 B k gI hk⟩ (fun k hk e=>by have:=cO.out;omega);generalize W0.setRow B gI=W1 at *;have HB1:=hid hb1;have bU:=hid hq1;clear hb1 hq1;go_wp2_with fail;have hb1:=HB1.out;have hl:=run_loadVar_mid (P:=Tryz.prog) W1 B 0 137 gI.toList _ (fun j v hv=>by rw [cell_of_row _ _ _ _ _ (0,0) hb1,Nat.zero_add];simpa using hv) Tryz.underlying137 (by rfl) HI.out;refine bodyPost_ret (IU (a:=0) (t:=137) (ad:=⟨B,0,none⟩) Tryz.results85 (by rfl) hl) (by rfl) ?_;exact ⟨rfl,bU.out⟩
theorem SX (k:Int) (h1:1<=k) (h2:k<=10) (W:World):Sem.run Tryz.prog (Instr.index 137 (.agg gI) (.int .i64 k)) W=.ok (.agg #[.bool (fQ k),.bool (k == 10),.int .i64 (jD k),.int .i64 (nK k),.int .i64 (pz k)]) W:=by
 have hk:k=1∨k=2∨k=3∨k=4∨k=5∨k=6∨k=7∨k=8∨k=9∨k=10:=by omega
 rcases hk with rfl | rfl | rfl | rfl | rfl | rfl | rfl | rfl | rfl | rfl
 all_goals rfl
theorem cells5 {w : World} {b : Nat} {a0 a1 a2 a3 a4 : Value} {t : TypeId} (h : w.heap[b]? = some (.cells #[a0, a1, a2, a3, a4] t (0, 0))) :
    w.cell? ⟨b,0,none⟩=some a0/\w.cell? ⟨b,1,none⟩=some a1/\w.cell? ⟨b,2,none⟩=some a2/\w.cell? ⟨b,3,none⟩=some a3/\w.cell? ⟨b,4,none⟩=some a4:=by
 refine ⟨?_,?_,?_,?_,?_⟩<;>(rw [cell_of_row _ _ _ _ _ (0,0) h];rfl)
theorem WZ (w:World) (b:Nat) (a0 a1 a2 a3 a4:Value):Fr (fun j=>j=b) w (((((w.setCell ⟨b,0,none⟩ a0).setCell ⟨b,1,none⟩ a1).setCell ⟨b,2,none⟩ a2).setCell ⟨b,3,none⟩ a3).setCell ⟨b,4,none⟩ a4) :=
 ((((Fr.setCell (fun j=>j=b) w ⟨b,0,none⟩ a0 rfl).trans (Fr.setCell (fun j=>j=b) _ ⟨b,1,none⟩ a1 rfl)).trans (Fr.setCell (fun j=>j=b) _ ⟨b,2,none⟩ a2 rfl)).trans (Fr.setCell (fun j=>j=b) _ ⟨b,3,none⟩ a3 rfl)).trans (Fr.setCell (fun j=>j=b) _ ⟨b,4,none⟩ a4 rfl)
theorem KX {w : World} {b : Nat} {a0 a1 a2 a3 a4 b0 b1 b2 b3 b4 : Value} {t : TypeId} (h : w.heap[b]? = some (.cells #[b0, b1, b2, b3, b4] t (0, 0))) :
    (((((w.setCell ⟨b,0,none⟩ a0).setCell ⟨b,1,none⟩ a1).setCell ⟨b,2,none⟩ a2).setCell ⟨b,3,none⟩ a3).setCell ⟨b,4,none⟩ a4).heap[b]?=some (.cells #[a0,a1,a2,a3,a4] t (0,0)):=by
 have s0:(w.setCell ⟨b,0,none⟩ a0).heap[b]?=some (.cells #[a0,b1,b2,b3,b4] t (0,0)):=aF h;have s1:((w.setCell ⟨b,0,none⟩ a0).setCell ⟨b,1,none⟩ a1).heap[b]?=some (.cells #[a0,a1,b2,b3,b4] t (0,0)):=aF s0;have s2:(((w.setCell ⟨b,0,none⟩ a0).setCell ⟨b,1,none⟩ a1).setCell ⟨b,2,none⟩ a2).heap[b]?=some (.cells #[a0,a1,a2,b3,b4] t (0,0)):=aF s1;have s3:((((w.setCell ⟨b,0,none⟩ a0).setCell ⟨b,1,none⟩ a1).setCell ⟨b,2,none⟩ a2).setCell ⟨b,3,none⟩ a3).heap[b]?=some (.cells #[a0,a1,a2,a3,b4] t (0,0)):=aF s2;exact aF s3
theorem SY (k : Int) (hk1 : 1 <= k) (hk2 : k <= 10) (nm : ByteArray) (n tk tn : Int) (vg : Fo) (fr en : Int) (w : World) (o1 : Option Addr) (l1 c1 : Nat) (o2 : Option Addr) (l2 c2 : Nat)
    (hs:kT w o1 l1 vg) (hnm:nm.size<=100000) (hz:vg.size<=100000) (hwn:sQ tn) (hwf:Wx vg) (_:l2<=9223372036854775807) (ht:Lx.mJ w) :
    Calls Tryz.prog 51 #[.agg #[.int .i64 k,.string nm,.int .i64 n,.int .i64 tk,.int .i64 tn,.slice o1 l1 c1,.slice o2 l2 c2,.int .i64 fr,.int .i64 en]] w fun e w'=>e=.returned (.bool (aI ⟨k,nm,n,tk,tn,vg,fr,en⟩ l2))/\ah w w':=by
 have DZ:=hid (fun (W:World)=>KW W);have Yp:=hid (fun (W:World) (h:ah w W)=>Lx.name_any nm hnm W (ht.stay h));have zV:=hid (fun (W:World) (h:ah w W)=>RF tk tn vg 0 0 .nil W o1 l1 c1 none 0 0 (hs.stay h) (kT.nil _ _));have BL:=hid (fun (W:World) (h:ah w W)=>Pj tk tn vg W o1 l1 c1 (hs.stay h));have NC:Hid (∀ W' b,ah w W'->W'.heap[b]?=some (.cells #[.int .i64 tk,.int .i64 tn,.slice o1 l1 c1] 24 (0,0))->Calls Tryz.prog 45 #[.slice (some ⟨b,0,none⟩) 1 1] W' fun e w'=>∃ a c,e=.returned (.slice a (Fo.vars [] (.cons tk tn vg .nil)).length c)/\ah W' w'):=by
  intro W' b h hb;refine (RI (.cons tk tn vg .nil) W' (some ⟨b,0,none⟩) 1 1 (acJ hb (hs.stay h)) ⟨hwn,hwf,trivial⟩ (by simp only [Fo.size];omega)).mono ?_;rintro e w' ⟨vo,rfl,hr,hq⟩;obtain ⟨a,c,rfl,_⟩:=hr.at;exact ⟨a,c,rfl,hq⟩
 have hix:=SX k hk1 hk2;obtain ⟨res,hres⟩:∃ res,res=aI ⟨k,nm,n,tk,tn,vg,fr,en⟩ l2:=⟨_,rfl⟩;rw [<-hres];have S9:Hid (res=((if fQ k then Lx.nameB nm.data.toList else nm.toList.isEmpty) && (if (k == 10) then (iI tk tn vg && (Fo.vars [] (.cons tk tn vg .nil)).isEmpty) else gG tk tn vg 0 0 .nil) && decide (0<=n) && decide (n<=pz k) && decide (jD k<=(l2:Int)) && decide ((l2:Int)<=nK k))):=by
  show _=_
  rw [hres];unfold aI fZ eY uN;simp only [hk1,hk2,decide_true,Bool.true_and]
 clear hres hs ht hwn hwf hz hnm;generalize fQ k=sn at *;generalize (k == 10)=st at *;generalize jD k=le at *;generalize nK k=mo at *;generalize pz k=tp at *;obtain ⟨W0,hW0⟩:∃ W0,W0=w.alloc (.cells #[.int .i64 k,.string nm,.int .i64 n,.int .i64 tk,.int .i64 tn,.slice o1 l1 c1,.slice o2 l2 c2,.int .i64 fr,.int .i64 en] 29):=⟨_,rfl⟩;obtain ⟨B,hB⟩:∃ B,B=w.heap.size:=⟨_,rfl⟩;have hb0:W0.heap[B]?=some (.cells #[.int .i64 k,.string nm,.int .i64 n,.int .i64 tk,.int .i64 tn,.slice o1 l1 c1,.slice o2 l2 c2,.int .i64 fr,.int .i64 en] 29 (0,0)):=by rw [hW0,hB];exact heap_alloc_new _ _
 have aP:Hid (ah w W0):=by rw [hW0];exact ah.alloc _ _
 have HB0:Hid (∀ W,ah W0 W->W.heap[B]?=some (.cells #[.int .i64 k,.string nm,.int .i64 n,.int .i64 tk,.int .i64 tn,.slice o1 l1 c1,.slice o2 l2 c2,.int .i64 fr,.int .i64 en] 29 (0,0))):=fun W h=>(h.block _ (lt_of_block hb0) (fun h=>h)).trans hb0
 have hBlt:B < W0.heap.size:=lt_of_block hb0;clear hb0;have HBC:Hid (∀ W,ah W0 W->W.cell? ⟨B,0,none⟩=some (.int .i64 k)):=fun W h=>by rw [cell_of_row _ _ _ _ _ (0,0) (HB0.out W h)];rfl
 have Ep:Hid (∀ W,Fr (fun j=>W0.heap.size<=j) W0 W->W.cell? ⟨B,0,none⟩=some (.int .i64 k)):=fun W h=>(h.bf hBlt (fun hh=>by have h2:W0.heap.size<=B:=hh;omega)).trans (HBC.out _ (ah.refl _))
 have adI:¬ k < 1:=by omega
 have adJ:¬ 10 < k:=by omega
 clear hBlt;go_enter Tryz.func51,Tryz.ntmps51;go_upto_region 3 with fail
 change Code.wp _ _ _ _ (w.alloc (.cells #[.int .i64 k,.string nm,.int .i64 n,.int .i64 tk,.int .i64 tn,.slice o1 l1 c1,.slice o2 l2 c2,.int .i64 fr,.int .i64 en] 29));rw [<-hW0,<-hB];clear hW0 hB;go_cut [3] (fun t wx=>∃ sb:Nat,t=.pointer (some ⟨sb,0,none⟩)/\wx.heap[sb]?=some (.cells #[.bool sn,.bool st,.int .i64 le,.int .i64 mo,.int .i64 tp] 136 (0,0))/\ah W0 wx)
 case first =>
  clear S9 Yp zV BL NC;have Ap:=Fr.refl (fun j=>W0.heap.size<=j) W0;have a0:=Ep.out _ Ap;go_region_held3 (fun w'=>w'.cell? ⟨B,0,none⟩=some (.int .i64 k))
   (((refine Ep.out _ ?_);(repeat (first | with_reducible exact Ap | with_reducible exact ah.fr hqc | with_reducible exact Fr.refl _ _ | with_reducible refine Fr.trans ?_ (Fr.alloc _ _ _) | with_reducible refine Fr.trans ?_ (Fr.drew _ _) | ((with_reducible refine Fr.trans ?_ (Fr.setCell _ _ _ _ ?hsd));(case hsd=>(simp<;>omega))) | fail))))
   (first
    | (go_at_call 85;(with_reducible refine Calls.mono (DZ.out _) ?_);rintro e wx ⟨rfl,gB⟩;(try (refine SV (b:=W0.heap.size) (t:=136) (a0:=.bool false) (a1:=.bool false) (a2:=.int .i64 0) (a3:=.int .i64 0) (a4:=.int .i64 0) (au gB ?hbk) ?_;(case hbk=>exact iE _ _ _ _ rfl);intro f0 f1 f2 f3 f4 y0 y1 y2 y3 y4 hzz));(refine RX (S:=fun j=>W0.heap.size<=j) (w0:=W0) ?hfr gB ?_);(case hfr=>(repeat (first | with_reducible exact Ap | with_reducible exact ah.fr hqc | with_reducible exact Fr.refl _ _ | with_reducible refine Fr.trans ?_ (Fr.alloc _ _ _) | with_reducible refine Fr.trans ?_ (Fr.drew _ _) | ((with_reducible refine Fr.trans ?_ (Fr.setCell _ _ _ _ ?hsd));(case hsd=>(simp<;>omega))) | fail)));intro Ap))
  all_goals
   clear hix DZ a0 HBC Ep HB0;generalize gI=sc at *;go_step;go_step;go_meet;refine ⟨_,rfl,?hbb,?hqq⟩
   case hbb =>
    first
    | with_reducible exact heap_alloc_new _ _
    | with_reducible exact KX hzz
   case hqq =>
    unfold ah;have h0:Fr (fun _=>False) W0 wx:=Ap.mono (fun i hi h=>by have h2:W0.heap.size<=i:=h;omega)
    first
    | with_reducible exact Fr.trans h0 (Fr.alloc _ _ _)
    | (with_reducible refine Fr.trans' (T := fun j => j = W0.heap.size) h0 ?_ (fun i hi e => by omega)
       with_reducible exact WZ _ _ _ _ _ _ _)
 case rest =>
  rename World=>wx
  obtain ⟨sb,rfl,hsb,gB⟩:=hcut;have Kq:Hid (∀ W,ah wx W->W.heap[sb]?=some (.cells #[.bool sn,.bool st,.int .i64 le,.int .i64 mo,.int .i64 tp] 136 (0,0))):=fun W h=>(h.block _ (lt_of_block hsb) (fun h=>h)).trans hsb
  have yL:=hid gB;have aQ:=S9;clear HBC Ep DZ hix S9 hsb gB;obtain ⟨b0,b1,b2,b3,b4,b5,b6,b7,b8⟩:=aA (h:=⟨k,nm,n,tk,tn,vg,fr,en⟩) (HB0.out _ yL.out);obtain ⟨s0,s1,s2,s3,s4⟩:=cells5 (Kq.out _ (ah.refl wx));generalize gG tk tn vg 0 0 .nil=sm at *;generalize iI tk tn vg=rt at *;generalize Fo.vars [] (.cons tk tn vg .nil)=L at *;unfold dZ at zV BL;cases sn
  ·cases hbn:nm.toList.isEmpty
   ·have e2:¬ nm.toList=[]:=by simpa using hbn
    have e3:nm.toList.isEmpty=false:=hbn;rw [hbn] at aQ;clear hbn;have jO:=hid (ah.refl wx);cases st
    ·go_wp2_with fail;refine (zV.out _ (aP.out.trans yL.out)).mono ?_;rintro e w5 ⟨rfl,hq5⟩;have HF:=hid ((aP.out.trans yL.out).trans hq5);have ND:=hid (yL.out.trans hq5);have vO:=hid (jO.out.trans hq5);clear hq5;clear b0 b1 b2 b3 b4 b5 b6 b7 b8 s0 s1 s2 s3 s4;obtain ⟨b0,b1,b2,b3,b4,b5,b6,b7,b8⟩:=aA (h:=⟨k,nm,n,tk,tn,vg,fr,en⟩) (HB0.out _ ND.out);obtain ⟨s0,s1,s2,s3,s4⟩:=cells5 (Kq.out _ vO.out);change Hid (res=(false && sm && decide (0<=n) && decide (n<=tp) && decide (le<=(l2:Int)) && decide ((l2:Int)<=mo))) at aQ;generalize sm=bt at *;go_upto_region 11 with fail
     go_wp2_with fail
     all_goals first
     | (exfalso;omega)
     | (go_ret;exact ⟨by rw [aQ.out];simp<;>omega,HF.out⟩)
    ·go_wp2_with fail;refine (zV.out _ (aP.out.trans yL.out)).mono ?_;rintro e w3 ⟨rfl,hq3⟩;have NG:=hid (yL.out.trans hq3);have Yq:=hid (jO.out.trans hq3);clear hq3 b0 b1 b2 b3 b4 b5 b6 b7 b8 s0 s1 s2 s3 s4;obtain ⟨b0,b1,b2,b3,b4,b5,b6,b7,b8⟩:=aA (h:=⟨k,nm,n,tk,tn,vg,fr,en⟩) (HB0.out _ NG.out);obtain ⟨s0,s1,s2,s3,s4⟩:=cells5 (Kq.out _ Yq.out);go_wp2_with fail;refine (BL.out _ (aP.out.trans NG.out)).mono ?_;rintro e w5 ⟨rfl,hq5⟩;have HF:=hid ((aP.out.trans NG.out).trans hq5);have ND:=hid (NG.out.trans hq5);have vO:=hid (Yq.out.trans hq5);clear hq5;clear b0 b1 b2 b3 b4 b5 b6 b7 b8 s0 s1 s2 s3 s4;obtain ⟨b0,b1,b2,b3,b4,b5,b6,b7,b8⟩:=aA (h:=⟨k,nm,n,tk,tn,vg,fr,en⟩) (HB0.out _ ND.out);obtain ⟨s0,s1,s2,s3,s4⟩:=cells5 (Kq.out _ vO.out);cases rt
     ·change Hid (res=(false && (false && L.isEmpty) && decide (0<=n) && decide (n<=tp) && decide (le<=(l2:Int)) && decide ((l2:Int)<=mo))) at aQ;go_upto_region 11 with fail
      go_wp2_with fail
      all_goals first
      | (exfalso;omega)
      | (go_ret;exact ⟨by rw [aQ.out];simp<;>omega,HF.out⟩)
     ·change Hid (res=(false && (true && L.isEmpty) && decide (0<=n) && decide (n<=tp) && decide (le<=(l2:Int)) && decide ((l2:Int)<=mo))) at aQ;obtain ⟨W6,uX⟩:∃ W6,W6=w5.alloc (.cells #[.int .i64 tk,.int .i64 tn,.slice o1 l1 c1] 24):=⟨_,rfl⟩;obtain ⟨vb,hvb⟩:∃ vb,vb=w5.heap.size:=⟨_,rfl⟩;have hb6:W6.heap[vb]?=some (.cells #[.int .i64 tk,.int .i64 tn,.slice o1 l1 c1] 24 (0,0)):=by rw [uX,hvb];exact heap_alloc_new _ _
      have yK:Hid (ah w5 W6):=by rw [uX];exact ah.alloc _ _
      have V6:=hid (NC.out W6 vb (HF.out.trans yK.out) hb6);rw [uX,hvb] at V6;clear hb6 uX hvb yK;go_wp2_with fail;refine V6.out.mono ?_;rintro e w7 ⟨va,vc,rfl,hq7⟩;replace HF:=hid ((HF.out.trans (ah.alloc _ _)).trans hq7);have HG0:=hid ((ND.out.trans (ah.alloc _ _)).trans hq7);have Q8:=hid ((vO.out.trans (ah.alloc _ _)).trans hq7);clear hq7;clear b0 b1 b2 b3 b4 b5 b6 b7 b8 s0 s1 s2 s3 s4;obtain ⟨b0,b1,b2,b3,b4,b5,b6,b7,b8⟩:=aA (h:=⟨k,nm,n,tk,tn,vg,fr,en⟩) (HB0.out _ HG0.out);obtain ⟨s0,s1,s2,s3,s4⟩:=cells5 (Kq.out _ Q8.out);cases L
      ·change Hid (res=(false && true && decide (0<=n) && decide (n<=tp) && decide (le<=(l2:Int)) && decide ((l2:Int)<=mo))) at aQ;have hl0:((([]:List Int).length:Nat):Int)=0:=rfl;go_upto_region 11 with fail
       go_wp2_with fail
       all_goals first
       | (exfalso;omega)
       | (go_ret;exact ⟨by rw [aQ.out];simp<;>omega,HF.out⟩)
      ·rename_i x0 r0
       change Hid (res=(false && false && decide (0<=n) && decide (n<=tp) && decide (le<=(l2:Int)) && decide ((l2:Int)<=mo))) at aQ;have hl0:¬ (((x0::r0).length:Nat):Int)=0:=by simp;omega
       generalize (((x0::r0).length:Nat))=ln at *;go_upto_region 11 with fail
       go_wp2_with fail
       all_goals first
       | (exfalso;omega)
       | (go_ret;exact ⟨by rw [aQ.out];simp<;>omega,HF.out⟩)
   ·have e2:nm.toList=[]:=by simpa using hbn
    have e3:nm.toList.isEmpty=true:=hbn;rw [hbn] at aQ;clear hbn;have jO:=hid (ah.refl wx);cases st
    ·go_wp2_with fail;refine (zV.out _ (aP.out.trans yL.out)).mono ?_;rintro e w5 ⟨rfl,hq5⟩;have HF:=hid ((aP.out.trans yL.out).trans hq5);have ND:=hid (yL.out.trans hq5);have vO:=hid (jO.out.trans hq5);clear hq5;clear b0 b1 b2 b3 b4 b5 b6 b7 b8 s0 s1 s2 s3 s4;obtain ⟨b0,b1,b2,b3,b4,b5,b6,b7,b8⟩:=aA (h:=⟨k,nm,n,tk,tn,vg,fr,en⟩) (HB0.out _ ND.out);obtain ⟨s0,s1,s2,s3,s4⟩:=cells5 (Kq.out _ vO.out);change Hid (res=(true && sm && decide (0<=n) && decide (n<=tp) && decide (le<=(l2:Int)) && decide ((l2:Int)<=mo))) at aQ;generalize sm=bt at *;go_upto_region 11 with fail
     cases bt
     ·go_wp2_with fail
      all_goals first
      | (exfalso;omega)
      | (go_ret;exact ⟨by rw [aQ.out];simp<;>omega,HF.out⟩)
     ·by_cases g1:0<=n
      ·by_cases g2:n<=tp
       ·by_cases g3:le<=(l2:Int)
        ·by_cases g4:(l2:Int)<=mo
         ·go_wp2_with fail
          all_goals first
          | (exfalso;omega)
          | (go_ret;exact ⟨by rw [aQ.out];simp [g1,g2,g3,g4]<;>omega,HF.out⟩)
         ·have g4':mo < (l2:Int):=by omega
          go_wp2_with fail
          all_goals first
          | (exfalso;omega)
          | (go_ret;exact ⟨by rw [aQ.out];simp [g1,g2,g3,g4]<;>omega,HF.out⟩)
        ·have g3':(l2:Int) < le:=by omega
         go_wp2_with fail
         all_goals first
         | (exfalso;omega)
         | (go_ret;exact ⟨by rw [aQ.out];simp<;>omega,HF.out⟩)
       ·have g2':tp < n:=by omega
        go_wp2_with fail
        all_goals first
        | (exfalso;omega)
        | (go_ret;exact ⟨by rw [aQ.out];simp<;>omega,HF.out⟩)
      ·have g1':n < 0:=by omega
       go_wp2_with fail
       all_goals first
       | (exfalso;omega)
       | (go_ret;exact ⟨by rw [aQ.out];simp<;>omega,HF.out⟩)
    ·go_wp2_with fail;refine (zV.out _ (aP.out.trans yL.out)).mono ?_;rintro e w3 ⟨rfl,hq3⟩;have NG:=hid (yL.out.trans hq3);have Yq:=hid (jO.out.trans hq3);clear hq3 b0 b1 b2 b3 b4 b5 b6 b7 b8 s0 s1 s2 s3 s4;obtain ⟨b0,b1,b2,b3,b4,b5,b6,b7,b8⟩:=aA (h:=⟨k,nm,n,tk,tn,vg,fr,en⟩) (HB0.out _ NG.out);obtain ⟨s0,s1,s2,s3,s4⟩:=cells5 (Kq.out _ Yq.out);go_wp2_with fail;refine (BL.out _ (aP.out.trans NG.out)).mono ?_;rintro e w5 ⟨rfl,hq5⟩;have HF:=hid ((aP.out.trans NG.out).trans hq5);have ND:=hid (NG.out.trans hq5);have vO:=hid (Yq.out.trans hq5);clear hq5;clear b0 b1 b2 b3 b4 b5 b6 b7 b8 s0 s1 s2 s3 s4;obtain ⟨b0,b1,b2,b3,b4,b5,b6,b7,b8⟩:=aA (h:=⟨k,nm,n,tk,tn,vg,fr,en⟩) (HB0.out _ ND.out);obtain ⟨s0,s1,s2,s3,s4⟩:=cells5 (Kq.out _ vO.out);cases rt
     ·change Hid (res=(true && (false && L.isEmpty) && decide (0<=n) && decide (n<=tp) && decide (le<=(l2:Int)) && decide ((l2:Int)<=mo))) at aQ;go_upto_region 11 with fail
      go_wp2_with fail
      all_goals first
      | (exfalso;omega)
      | (go_ret;exact ⟨by rw [aQ.out];simp<;>omega,HF.out⟩)
     ·change Hid (res=(true && (true && L.isEmpty) && decide (0<=n) && decide (n<=tp) && decide (le<=(l2:Int)) && decide ((l2:Int)<=mo))) at aQ;obtain ⟨W6,uX⟩:∃ W6,W6=w5.alloc (.cells #[.int .i64 tk,.int .i64 tn,.slice o1 l1 c1] 24):=⟨_,rfl⟩;obtain ⟨vb,hvb⟩:∃ vb,vb=w5.heap.size:=⟨_,rfl⟩;have hb6:W6.heap[vb]?=some (.cells #[.int .i64 tk,.int .i64 tn,.slice o1 l1 c1] 24 (0,0)):=by rw [uX,hvb];exact heap_alloc_new _ _
      have yK:Hid (ah w5 W6):=by rw [uX];exact ah.alloc _ _
      have V6:=hid (NC.out W6 vb (HF.out.trans yK.out) hb6);rw [uX,hvb] at V6;clear hb6 uX hvb yK;go_wp2_with fail;refine V6.out.mono ?_;rintro e w7 ⟨va,vc,rfl,hq7⟩;replace HF:=hid ((HF.out.trans (ah.alloc _ _)).trans hq7);have HG0:=hid ((ND.out.trans (ah.alloc _ _)).trans hq7);have Q8:=hid ((vO.out.trans (ah.alloc _ _)).trans hq7);clear hq7;clear b0 b1 b2 b3 b4 b5 b6 b7 b8 s0 s1 s2 s3 s4;obtain ⟨b0,b1,b2,b3,b4,b5,b6,b7,b8⟩:=aA (h:=⟨k,nm,n,tk,tn,vg,fr,en⟩) (HB0.out _ HG0.out);obtain ⟨s0,s1,s2,s3,s4⟩:=cells5 (Kq.out _ Q8.out);cases L
      ·change Hid (res=(true && true && decide (0<=n) && decide (n<=tp) && decide (le<=(l2:Int)) && decide ((l2:Int)<=mo))) at aQ;have hl0:((([]:List Int).length:Nat):Int)=0:=rfl;go_upto_region 11 with fail
       by_cases g1:0<=n
       ·by_cases g2:n<=tp
        ·by_cases g3:le<=(l2:Int)
         ·by_cases g4:(l2:Int)<=mo
          ·go_wp2_with fail
           all_goals first
           | (exfalso;omega)
           | (go_ret;exact ⟨by rw [aQ.out];simp [g1,g2,g3,g4]<;>omega,HF.out⟩)
          ·have g4':mo < (l2:Int):=by omega
           go_wp2_with fail
           all_goals first
           | (exfalso;omega)
           | (go_ret;exact ⟨by rw [aQ.out];simp [g1,g2,g3,g4]<;>omega,HF.out⟩)
         ·have g3':(l2:Int) < le:=by omega
          go_wp2_with fail
          all_goals first
          | (exfalso;omega)
          | (go_ret;exact ⟨by rw [aQ.out];simp<;>omega,HF.out⟩)
        ·have g2':tp < n:=by omega
         go_wp2_with fail
         all_goals first
         | (exfalso;omega)
         | (go_ret;exact ⟨by rw [aQ.out];simp<;>omega,HF.out⟩)
       ·have g1':n < 0:=by omega
        go_wp2_with fail
        all_goals first
        | (exfalso;omega)
        | (go_ret;exact ⟨by rw [aQ.out];simp<;>omega,HF.out⟩)
      ·rename_i x0 r0
       change Hid (res=(true && false && decide (0<=n) && decide (n<=tp) && decide (le<=(l2:Int)) && decide ((l2:Int)<=mo))) at aQ;have hl0:¬ (((x0::r0).length:Nat):Int)=0:=by simp;omega
       generalize (((x0::r0).length:Nat))=ln at *;go_upto_region 11 with fail
       go_wp2_with fail
       all_goals first
       | (exfalso;omega)
       | (go_ret;exact ⟨by rw [aQ.out];simp<;>omega,HF.out⟩)
  ·go_wp2_with fail;refine (Yp.out _ (aP.out.trans yL.out)).mono ?_;rintro e w4 ⟨rfl,hq4⟩;have HX0:=hid (yL.out.trans hq4);have jO:=hid hq4;clear hq4;clear b0 b1 b2 b3 b4 b5 b6 b7 b8 s0 s1 s2 s3 s4;obtain ⟨b0,b1,b2,b3,b4,b5,b6,b7,b8⟩:=aA (h:=⟨k,nm,n,tk,tn,vg,fr,en⟩) (HB0.out _ HX0.out);obtain ⟨s0,s1,s2,s3,s4⟩:=cells5 (Kq.out _ jO.out);generalize Lx.nameB nm.data.toList=bn at *;cases st
   ·go_wp2_with fail;refine (zV.out _ (aP.out.trans HX0.out)).mono ?_;rintro e w5 ⟨rfl,hq5⟩;have HF:=hid ((aP.out.trans HX0.out).trans hq5);have ND:=hid (HX0.out.trans hq5);have vO:=hid (jO.out.trans hq5);clear hq5;clear b0 b1 b2 b3 b4 b5 b6 b7 b8 s0 s1 s2 s3 s4;obtain ⟨b0,b1,b2,b3,b4,b5,b6,b7,b8⟩:=aA (h:=⟨k,nm,n,tk,tn,vg,fr,en⟩) (HB0.out _ ND.out);obtain ⟨s0,s1,s2,s3,s4⟩:=cells5 (Kq.out _ vO.out);change Hid (res=(bn && sm && decide (0<=n) && decide (n<=tp) && decide (le<=(l2:Int)) && decide ((l2:Int)<=mo))) at aQ;generalize sm=bt at *;go_upto_region 11 with fail
    cases bn
    ·go_wp2_with fail
     all_goals first
     | (exfalso;omega)
     | (go_ret;exact ⟨by rw [aQ.out];simp<;>omega,HF.out⟩)
    ·cases bt
     ·go_wp2_with fail
      all_goals first
      | (exfalso;omega)
      | (go_ret;exact ⟨by rw [aQ.out];simp<;>omega,HF.out⟩)
     ·by_cases g1:0<=n
      ·by_cases g2:n<=tp
       ·by_cases g3:le<=(l2:Int)
        ·by_cases g4:(l2:Int)<=mo
         ·go_wp2_with fail
          all_goals first
          | (exfalso;omega)
          | (go_ret;exact ⟨by rw [aQ.out];simp [g1,g2,g3,g4]<;>omega,HF.out⟩)
         ·have g4':mo < (l2:Int):=by omega
          go_wp2_with fail
          all_goals first
          | (exfalso;omega)
          | (go_ret;exact ⟨by rw [aQ.out];simp [g1,g2,g3,g4]<;>omega,HF.out⟩)
        ·have g3':(l2:Int) < le:=by omega
         go_wp2_with fail
         all_goals first
         | (exfalso;omega)
         | (go_ret;exact ⟨by rw [aQ.out];simp<;>omega,HF.out⟩)
       ·have g2':tp < n:=by omega
        go_wp2_with fail
        all_goals first
        | (exfalso;omega)
        | (go_ret;exact ⟨by rw [aQ.out];simp<;>omega,HF.out⟩)
      ·have g1':n < 0:=by omega
       go_wp2_with fail
       all_goals first
       | (exfalso;omega)
       | (go_ret;exact ⟨by rw [aQ.out];simp<;>omega,HF.out⟩)
   ·go_wp2_with fail;refine (zV.out _ (aP.out.trans HX0.out)).mono ?_;rintro e w3 ⟨rfl,hq3⟩;have NG:=hid (HX0.out.trans hq3);have Yq:=hid (jO.out.trans hq3);clear hq3 b0 b1 b2 b3 b4 b5 b6 b7 b8 s0 s1 s2 s3 s4;obtain ⟨b0,b1,b2,b3,b4,b5,b6,b7,b8⟩:=aA (h:=⟨k,nm,n,tk,tn,vg,fr,en⟩) (HB0.out _ NG.out);obtain ⟨s0,s1,s2,s3,s4⟩:=cells5 (Kq.out _ Yq.out);go_wp2_with fail;refine (BL.out _ (aP.out.trans NG.out)).mono ?_;rintro e w5 ⟨rfl,hq5⟩;have HF:=hid ((aP.out.trans NG.out).trans hq5);have ND:=hid (NG.out.trans hq5);have vO:=hid (Yq.out.trans hq5);clear hq5;clear b0 b1 b2 b3 b4 b5 b6 b7 b8 s0 s1 s2 s3 s4;obtain ⟨b0,b1,b2,b3,b4,b5,b6,b7,b8⟩:=aA (h:=⟨k,nm,n,tk,tn,vg,fr,en⟩) (HB0.out _ ND.out);obtain ⟨s0,s1,s2,s3,s4⟩:=cells5 (Kq.out _ vO.out);cases rt
    ·change Hid (res=(bn && (false && L.isEmpty) && decide (0<=n) && decide (n<=tp) && decide (le<=(l2:Int)) && decide ((l2:Int)<=mo))) at aQ;go_upto_region 11 with fail
     cases bn
     ·go_wp2_with fail
      all_goals first
      | (exfalso;omega)
      | (go_ret;exact ⟨by rw [aQ.out];simp<;>omega,HF.out⟩)
     ·go_wp2_with fail
      all_goals first
      | (exfalso;omega)
      | (go_ret;exact ⟨by rw [aQ.out];simp<;>omega,HF.out⟩)
    ·change Hid (res=(bn && (true && L.isEmpty) && decide (0<=n) && decide (n<=tp) && decide (le<=(l2:Int)) && decide ((l2:Int)<=mo))) at aQ;obtain ⟨W6,uX⟩:∃ W6,W6=w5.alloc (.cells #[.int .i64 tk,.int .i64 tn,.slice o1 l1 c1] 24):=⟨_,rfl⟩;obtain ⟨vb,hvb⟩:∃ vb,vb=w5.heap.size:=⟨_,rfl⟩;have hb6:W6.heap[vb]?=some (.cells #[.int .i64 tk,.int .i64 tn,.slice o1 l1 c1] 24 (0,0)):=by rw [uX,hvb];exact heap_alloc_new _ _
     have yK:Hid (ah w5 W6):=by rw [uX];exact ah.alloc _ _
     have V6:=hid (NC.out W6 vb (HF.out.trans yK.out) hb6);rw [uX,hvb] at V6;clear hb6 uX hvb yK;go_wp2_with fail;refine V6.out.mono ?_;rintro e w7 ⟨va,vc,rfl,hq7⟩;replace HF:=hid ((HF.out.trans (ah.alloc _ _)).trans hq7);have HG0:=hid ((ND.out.trans (ah.alloc _ _)).trans hq7);have Q8:=hid ((vO.out.trans (ah.alloc _ _)).trans hq7);clear hq7;clear b0 b1 b2 b3 b4 b5 b6 b7 b8 s0 s1 s2 s3 s4;obtain ⟨b0,b1,b2,b3,b4,b5,b6,b7,b8⟩:=aA (h:=⟨k,nm,n,tk,tn,vg,fr,en⟩) (HB0.out _ HG0.out);obtain ⟨s0,s1,s2,s3,s4⟩:=cells5 (Kq.out _ Q8.out);cases L
     ·change Hid (res=(bn && true && decide (0<=n) && decide (n<=tp) && decide (le<=(l2:Int)) && decide ((l2:Int)<=mo))) at aQ;have hl0:((([]:List Int).length:Nat):Int)=0:=rfl;go_upto_region 11 with fail
      cases bn
      ·go_wp2_with fail
       all_goals first
       | (exfalso;omega)
       | (go_ret;exact ⟨by rw [aQ.out];simp<;>omega,HF.out⟩)
      ·by_cases g1:0<=n
       ·by_cases g2:n<=tp
        ·by_cases g3:le<=(l2:Int)
         ·by_cases g4:(l2:Int)<=mo
          ·go_wp2_with fail
           all_goals first
           | (exfalso;omega)
           | (go_ret;exact ⟨by rw [aQ.out];simp [g1,g2,g3,g4]<;>omega,HF.out⟩)
          ·have g4':mo < (l2:Int):=by omega
           go_wp2_with fail
           all_goals first
           | (exfalso;omega)
           | (go_ret;exact ⟨by rw [aQ.out];simp [g1,g2,g3,g4]<;>omega,HF.out⟩)
         ·have g3':(l2:Int) < le:=by omega
          go_wp2_with fail
          all_goals first
          | (exfalso;omega)
          | (go_ret;exact ⟨by rw [aQ.out];simp<;>omega,HF.out⟩)
        ·have g2':tp < n:=by omega
         go_wp2_with fail
         all_goals first
         | (exfalso;omega)
         | (go_ret;exact ⟨by rw [aQ.out];simp<;>omega,HF.out⟩)
       ·have g1':n < 0:=by omega
        go_wp2_with fail
        all_goals first
        | (exfalso;omega)
        | (go_ret;exact ⟨by rw [aQ.out];simp<;>omega,HF.out⟩)
     ·rename_i x0 r0
      change Hid (res=(bn && false && decide (0<=n) && decide (n<=tp) && decide (le<=(l2:Int)) && decide ((l2:Int)<=mo))) at aQ;have hl0:¬ (((x0::r0).length:Nat):Int)=0:=by simp;omega
      generalize (((x0::r0).length:Nat))=ln at *;go_upto_region 11 with fail
      cases bn
      ·go_wp2_with fail
       all_goals first
       | (exfalso;omega)
       | (go_ret;exact ⟨by rw [aQ.out];simp<;>omega,HF.out⟩)
      ·go_wp2_with fail
       all_goals first
       | (exfalso;omega)
       | (go_ret;exact ⟨by rw [aQ.out];simp<;>omega,HF.out⟩)
end
end Go.Proofs.YtcninopmelmajaaGreatDoor
