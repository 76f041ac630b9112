/-
  Texts laid together (EqCopy, EqRun): laws and walks, with their conditions.
-/
import Derived.Test.YtcninopmelmajaaGreatDoorOF31
set_option maxHeartbeats 8000000
set_option maxRecDepth 1000000
namespace Go.Proofs.YtcninopmelmajaaGreatDoor
open Go.Lib (hid)
section
open Go.RowKit
namespace Em
theorem lS {X:Nat->Prop} {most:Int} {pb:Nat} {w0 W w3:World} {k:Mk} {G:Prop} (hl:Later pb w0 W) (hm:dV X most pb W k) (hq:ah W w3) (g:Later pb w0 w3->dV X most pb w3 k->G):G:=g (hl.trans (Later.aT hq hm.lt)) (hm.stay hq)
theorem jc {pb:Nat} {w0 W w3:World} {G:Prop} (hl:Later pb w0 W) (hq:Later pb W w3) (g:Later pb w0 w3->G):G:=g (hl.trans hq)
theorem jH {X:Nat->Prop} {most:Int} {pb:Nat} {W W':World} {k:Mk} {o:Option Addr} {len:Nat} {f:Fo} (hm:dV X most pb W k) (hq:ah W W') (h:aB (TF X pb W) W o len f):aB (TF X pb W') W' o len f:=jk h (Later.aT hq hm.lt)
def Bx (pb:Nat) (W:World) (b:Nat) (cs:Array Value) (t:TypeId):Prop:=W.heap[b]?=some (.cells cs t (0,0))/\¬ (b=pb∨Rw pb W b)
theorem Bx.later {pb:Nat} {W W':World} {b:Nat} {cs:Array Value} {t:TypeId} (h:Bx pb W b cs t) (hl:Later pb W W'):Bx pb W' b cs t:=by
 have hb:=lt_of_block h.1;exact ⟨aC hl.fr h.2 h.1,fun e=>e.elim (fun e=>h.2 (.inl e)) (fun e=>(hl.row b e).elim (fun e=>h.2 (.inr e)) (fun e=>by omega))⟩
theorem Bx.new {X:Nat->Prop} {most:Int} {pb:Nat} {W W':World} {k:Mk} (h:dV X most pb W k) (hq:ah W W') {b:Nat} {cs:Array Value} {t:TypeId} (hi:W.heap.size<=b) (hb:W'.heap[b]?=some (.cells cs t (0,0))):Bx pb W' b cs t:=by
 have:=h.fresh hq hi;exact ⟨hb,fun e=>e.elim this.1 this.2.1⟩
def KeptAt (pb:Nat) (W:World) (o:Option Addr) (l:List mD):Prop:=l=[]∨∃ g off,o=some ⟨g,off,none⟩/\∀ W',Later pb W W'->DY (TF (fun _=>False) pb W') W' g off l
theorem KeptAt.later {pb:Nat} {W W':World} {o:Option Addr} {l:List mD} (h:KeptAt pb W o l) (hl:Later pb W W'):KeptAt pb W' o l:=by
 rcases h with h | ⟨g,off,h1,h2⟩
 ·exact .inl h
 ·exact .inr ⟨g,off,h1,fun W2 hl2=>h2 W2 (hl.trans hl2)⟩
def ShQ (W:World) (t:Ty) (len:Nat) (e:Ending) (w':World):Prop:=∃ o' cap',e=.returned (.agg #[.int .i64 t.1,.int .i64 t.2.1,.slice o' len cap'])/\aB (fun b=>W.heap.size<=b) w' o' len t.2.2/\ah W w'
def ShV (W:World) (n:Nat) (e:Ending) (w':World):Prop:=∃ o' cap',e=.returned (.agg #[.int .i64 1,.int .i64 n,.slice o' 0 cap'])/\ah W w'
theorem Hf (t : Ty) (fr tt by' : Nat) (w : World) (o : Option Addr) (len cap : Nat) (ca cb cc : Nat) (h1 : gQ w ca (.int .i64 fr) 3) (h2 : gQ w cb (.int .i64 tt) 3) (h3 : gQ w cc (.int .i64 by') 3) (hs : kT w o len t.2.2) (hb : tt + by' <= 1000000000) (hsz : t.2.2.size <= 100000) :
    Calls Tryz.prog 117 #[dZ t.1 t.2.1 o len cap,.pointer (some ⟨ca,0,none⟩),.pointer (some ⟨cb,0,none⟩),.pointer (some ⟨cc,0,none⟩)] w (ShQ w (yh fr tt by' t) len) :=
 IE t.1 t.2.1 fr tt by' t.2.2 w o len cap ca cb cc h1 h2 h3 hs hb hsz
theorem Ua {X:Nat->Prop} {most:Int} {pb:Nat} {W w3:World} {k:Mk} {o:Option Addr} {len:Nat} {f:Fo} {G:Prop} (hm:dV X most pb W k) (hq:ah W w3) (h:aB (TF X pb W) W o len f) (g:aB (TF X pb w3) w3 o len f->G):G:=g (jH hm hq h)
theorem qU {X:Nat->Prop} {most:Int} {pb:Nat} {W w3:World} {k:Mk} {o:Option Addr} {len:Nat} {f:Fo} {G:Prop} (hm:dV X most pb W k) (hq:ah W w3) (h:aB (fun b=>W.heap.size<=b) w3 o len f) (g:aB (TF X pb w3) w3 o len f->G):G:=g (hm.new hq h)
theorem Ub (fr tt d n:Nat):∃ n',yh fr tt d (tv n)=tv n':=by
 refine ⟨if fr<=n/\n < tt then n+d else n,?_⟩
 show ((1,Bo fr tt d (n:Int),Fo.nil):Ty)=(1,((if fr<=n/\n < tt then n+d else n:Nat):Int),Fo.nil)
 unfold Bo
 by_cases h:fr<=n/\n < tt
 ·rw [if_pos h,if_pos (by omega)];push_cast;rfl
 ·rw [if_neg h,if_neg (by omega)]
def ByR (W0:World) (b by':Nat) (v:Value) (wx:World):Prop:=v=.pointer (some ⟨b,0,none⟩)/\gQ wx b (.int .i64 by') 3/\ah W0 wx
theorem ByR.drew {W0:World} {b by':Nat} {v:Value} {wx:World} (h:ByR W0 b by' v wx):ByR W0 b by' v wx.drew:=⟨h.1,h.2.1.fr (ah.drew wx) (fun h=>h),h.2.2.trans (ah.drew _)⟩
theorem Hg {W0:World} {b by':Nat} (hz:W0.heap.size=b):ByR W0 b by' (.pointer (some ⟨b,0,none⟩)) (W0.alloc (.cells #[.int .i64 by'] 3)):=by
 subst hz;exact ⟨rfl,gQ.new _ _ _,ah.alloc _ _⟩
theorem dV.bump {X:Nat->Prop} {most:Int} {pb:Nat} {W:World} {k:Mk} (h:dV X most pb W k) (d:Nat):dV X most pb (W.setCell ⟨pb,1,none⟩ (.int .i64 ((k.next:Int)+d))) { k with next:=k.next+d }/\Later pb W (W.setCell ⟨pb,1,none⟩ (.int .i64 ((k.next:Int)+d))):=by
 obtain ⟨o,c,xs,h⟩:=h;obtain ⟨h1,h2⟩:=h.Gj (k':={ k with next:=k.next+d }) 1 (.int .i64 ((k.next:Int)+d)) (by decide) rfl (by simp);exact ⟨⟨o,c,xs,h1⟩,h2⟩
def CpI (X:Nat->Prop) (most:Int) (pb:Nat) (W2:World) (sh:Ty->Ty) (kept:List mD) (fin:Mk) (t:Value) (wr:World):Prop :=
 ∃ (i:Nat) (uQ:Mk),t=.int .i64 i/\i<=kept.length/\(dX most sh (kept.drop i) uQ).2=fin/\dV X most pb wr uQ/\Later pb W2 wr
theorem Jz {X : Nat -> Prop} {most : Int} {pb : Nat} {W : World} {mk : Mk} (Xy : dV X most pb W mk) (hm : most <= 4096) (n fr tt : Nat) (kept : List mD) (ko : Option Addr) (kc : Nat) (vo : Option Addr) (vc ca cb ck cv : Nat) (a b : Int)
    (h1:Bx pb W ca #[.int .i64 fr] 3) (h2:Bx pb W cb #[.int .i64 tt] 3) (h3:Bx pb W ck #[.slice ko kept.length kc] 42) (h4:Bx pb W cv #[.int .i64 1,.int .i64 n,.slice vo 0 vc] 24)
    (hk:KeptAt pb W ko kept) (hkz:kept.length<=4096) (hks:∀ t∈kept,t.1.2.2.size<=100000/\t.2.1.2.2.size<=100000) (hft:fr<=tt) (hlo:tt<=mk.next) (hN:(copied most kept (tv n) fr tt mk).2.next<=Aa) :
    Calls Tryz.prog 116 #[.pointer (some ⟨pb,0,none⟩),.agg #[.int .i64 a,.int .i64 b],.pointer (some ⟨ca,0,none⟩),.pointer (some ⟨cb,0,none⟩),.pointer (some ⟨ck,0,none⟩),.pointer (some ⟨cv,0,none⟩)] W (Iz X most pb W (copied most kept (tv n) fr tt mk)):=by
 obtain ⟨W0,hW0⟩:∃ W0,W0=(W.alloc (.cells #[.int .i64 a,.int .i64 b] 27)).alloc (.cells #[.int .i64 0,.int .i64 0,.slice none 0 0] 24):=⟨_,rfl⟩;have hq0:ah W W0:=by rw [hW0];exact (ah.alloc _ _).trans (ah.alloc _ _)
 have hz0:W0.heap.size=W.heap.size+2:=by rw [hW0];simp
 have hB8:Bx pb W0 (W.heap.size+1) #[.int .i64 0,.int .i64 0,.slice none 0 0] 24:=by
  refine Bx.new Xy hq0 (by omega) ?_;rw [hW0];have:=heap_alloc_new (W.alloc (.cells #[.int .i64 a,.int .i64 b] 27)) (.cells #[.int .i64 0,.int .i64 0,.slice none 0 0] 24);simpa using this
 have hm0:=Xy.more hq0 (fun i=>i=W.heap.size+1) (fun i hi=>by subst hi;omega);have hpw:=Xy.lt;have hl0:=Later.aT hq0 hpw;have yQ:=hid hl0;have Fv:=hid hm0;have N7:=hid hpw;have HZ0:=hid hz0;have H1:=hid (h1.later hl0);have H2:=hid (h2.later hl0);have H3:=hid (h3.later hl0);have H4:=hid (h4.later hl0);have H8:=hid hB8;have HK:=hid (hk.later hl0);have HKS:=hid hks;obtain ⟨by',hby⟩:∃ by',mk.next-fr=by':=⟨_,rfl⟩
 have hnx:(copied most kept (tv n) fr tt mk).2.next=mk.next+(tt-fr):=by
  show (dX most (yh fr tt (mk.next-fr)) kept { mk with next:=mk.next+(tt-fr) }).2.next=_
  exact Fh most _ kept _
 rw [hnx] at hN;replace hN:mk.next+(tt-fr)<=500000000:=hN
 obtain ⟨fin,hfin⟩:∃ fin,(dX most (yh fr tt by') kept { mk with next:=mk.next+(tt-fr) }).2=fin:=⟨_,rfl⟩;have hres:copied most kept (tv n) fr tt mk=(yh fr tt by' (tv n),fin):=by
  rw [<-hfin,<-hby];rfl
 rw [hres];obtain ⟨d,hd⟩:∃ d,tt-fr=d:=⟨_,rfl⟩;rw [hd] at hfin hN;have hw1:((mk.next:Int)-fr)=(by':Int):=by omega
 have hw2:IntKind.i64.wrap (by':Int)=(by':Int):=IntWalk.i64_in _ (by omega);have hw3:((tt:Int)-fr)=(d:Int):=by omega
 have hw4:IntKind.i64.wrap (d:Int)=(d:Int):=IntWalk.i64_in _ (by omega);have hw5:IntKind.i64.wrap ((mk.next:Int)+d)=(mk.next:Int)+d:=IntWalk.i64_in _ (by omega);have hbt:tt+by'<=1000000000:=by omega
 have hN1:mk.next<=500000000:=by omega
 have hN2:tt<=500000000:=by omega
 have bH:=hid hfin;clear Xy hm0 hl0 hq0 h1 h2 h3 h4 hk hks hB8 hnx hres hfin;unfold Iz;unfold dZ;go_enter Tryz.func116,Tryz.ntmps116;generalize dW:W.heap.size=B at *;obtain ⟨X1,hX1⟩:∃ X1,X1=(fun i=>X i∨i=B+1):=⟨_,rfl⟩;rw [<-hX1] at Fv;have jO:Hid (∀ i,X1 i=(X i∨i=B+1)):=fun i=>by rw [hX1]
 clear hX1;go_upto_region 1 with fail
 rw [<-hW0];clear hW0;obtain ⟨oo,oc,oxs,lH⟩:=Fv.out;obtain ⟨q0,q1,q2,q3⟩:=bV lH.box;have u1:=cell_of_one H1.out.1;have hqa:=ah.alloc W0 (.cells #[.int .i64 0] 3);have q1':=hqa.at q1;have u1':=hqa.at u1;clear hqa;go_cut [9] (fun v9 wx=>ByR W0 (B+2) by' v9 wx)
 case first =>
  go_region_law (fail)
  all_goals
   go_wp2_with fail;go_meet
   first
    | with_reducible exact Hg HZ0.out
    | with_reducible exact (Hg HZ0.out).drew
    | with_reducible exact (Hg HZ0.out).drew.drew
 case rest =>
  rename World=>w1
  obtain ⟨rfl,ig,hq1⟩:=hcut;have hl1:=Later.aT hq1 Fv.out.lt;have V4:=hid (Fv.out.stay hq1);have H91:=hid (Bx.new Fv.out hq1 (b:=B+2) (by rw [HZ0.out];exact Nat.le_refl _) ig);have H11:=hid (H1.out.later hl1);have H21:=hid (H2.out.later hl1);have OL:=hid (yQ.out.trans hl1);have abn:=hid hl1;clear q0 q1 q2 q3 u1 q1' u1' ig hq1 hl1;obtain ⟨oo,oc,oxs,lH⟩:=V4.out;obtain ⟨q0,q1,q2,q3⟩:=bV lH.box;obtain ⟨f0,f1,f2,f3⟩:=uJ lH.box;have u1:=cell_of_one H11.out.1;have u2:=cell_of_one H21.out.1;have HBM:=hid (V4.out.bump d);have Xn:=hid V4.out.lt;clear lH;go_upto_region 2 with fail
  go_cut [22] (fun _ wx=>dV X1 most pb wx { mk with next:=mk.next+d }/\Later pb w1 wx)
  case first =>
   go_region_law (fail)
   all_goals
    go_wp2_with fail;go_meet
    first
     | with_reducible exact ⟨HBM.out.1.stay (ah.drew _),HBM.out.2.quiet (ah.drew _) Xn.out⟩
     | with_reducible exact HBM.out
  case rest =>
   rename World=>w2
   obtain ⟨hm2,hl2⟩:=hcut;have EO:=hid hm2;have Qh:=abn.out.trans hl2;have abo:=hid (yQ.out.trans Qh);have H1b:=hid (H11.out.later hl2);have H2b:=hid (H21.out.later hl2);have H9b:=hid (H91.out.later hl2);have H3b:=hid (H3.out.later Qh);have H4b:=hid (H4.out.later Qh);have H8b:=hid (H8.out.later Qh);have HKb:=hid (HK.out.later Qh);have hp2:=hm2.lt;have HP2:=hid hp2;clear q0 q1 q2 q3 f0 f1 f2 f3 u1 u2 hm2 hl2 Qh hp2 V4 Fv HBM Xn H11 H21 H91 H1 H2 H3 H4 H8 HK yQ OL abn hw1 hw2 hw3 hw4 hw5;have k0:=cell_of_one H3b.out.1;go_wp2_with fail;clear k0;go_loopw [32] (fun t wr=>CpI X1 most pb w2 (yh fr tt by') kept fin t wr) (fun t _=>kept.length-(intOf t).toNat)
   case atStart=>exact ⟨0,_,rfl,Nat.zero_le _,bH.out,EO.out,Later.refl HP2.out⟩
   case round =>
    obtain ⟨i,uQ,rfl,hi,hpk,LM,Wh⟩:=hrel;have HPK:=hid hpk;have HMI:=hid LM;have HLI:=hid Wh;clear hpk LM Wh
    by_cases hlt:i < kept.length
    ·have hlt':(i:Int) < kept.length:=by omega
     obtain ⟨t,ht⟩:∃ t,kept[i]?=some t:=⟨_,List.getElem?_eq_getElem hlt⟩;have hdr:kept.drop i=t::kept.drop (i+1):=by
      obtain ⟨h1,h2⟩:=List.getElem?_eq_some_iff.1 ht;rw [List.drop_eq_getElem_cons h1,h2]
     have hkq:∃ g off,ko=some ⟨g,off,none⟩/\DY (TF (fun _=>False) pb wr) wr g off kept:=by
      rcases HKb.out with e | ⟨g,off,e1,e2⟩
      ·rw [e] at hlt;simp at hlt
      ·exact ⟨g,off,e1,e2 wr HLI.out⟩
     obtain ⟨g,off,rfl,hqa⟩:=hkq;obtain ⟨o1,l1,c1,o2,l2,c2,s1,s2,a0,a1,a2,a3,a4,a5,a6,a7⟩:=hqa i t ht;have hts:=HKS.out t (List.mem_of_getElem? ht);obtain ⟨mo,mc,mxs,lH⟩:=HMI.out;have hmc:=(bV lH.box).2.2.2;obtain ⟨W1,hW1⟩:∃ W1,W1=wr.alloc (.cells (ec t o1 l1 c1 o2 l2 c2) 74):=⟨_,rfl⟩;have Ey:ah wr W1:=by rw [hW1];exact ah.alloc _ _
     have hbe:=Bx.new HMI.out Ey (Nat.le_refl _) (by rw [hW1];exact heap_alloc_new wr (.cells (ec t o1 l1 c1 o2 l2 c2) 74));have cO:=hid hbe;have hmc1:=Ey.at hmc;have Gw:=hid Ey;have ZG:=hid HMI.out.lt;have HSA:Hid (∀ W,Later pb W1 W->kT W o1 l1 t.1.2.2):=fun W hl=>(jk s1 ((Later.aT Gw.out ZG.out).trans hl)).slc
     have Kq:Hid (∀ W,Later pb W1 W->kT W o2 l2 t.2.1.2.2):=fun W hl=>(jk s2 ((Later.aT Gw.out ZG.out).trans hl)).slc
     clear s1 s2 hqa lH Ey hbe hmc;cases hmb:uQ.many
     ·have abp : Hid ((dX most (yh fr tt by') (kept.drop (i + 1)) (dw most (yh fr tt by' t.1) (yh fr tt by' t.2.1) t.2.2.1 t.2.2.2 uQ).2).2 = fin) := by
        show _=_
        rw [<-HPK.out,hdr]
        show _=(dh () _ uQ).2
        unfold dh;rw [if_neg (by rw [hmb];decide)];rfl
      rw [hmb] at hmc1;obtain ⟨mn,hmn⟩:∃ mn,(dw most (yh fr tt by' t.1) (yh fr tt by' t.2.1) t.2.2.1 t.2.2.2 uQ).2=mn:=⟨_,rfl⟩;rw [hmn] at abp;have Zx:=hid hmn;have hz1:=hts.1;have hz2:=hts.2;have AY:=hid (HMI.out.stay Gw.out);clear ht hdr hmn hts hmb;go_upto_region 7 with fail
      change Code.wp _ _ _ _ (wr.alloc (.cells (ec t o1 l1 c1 o2 l2 c2) 74));rw [<-hW1];clear hW1 a0 a1 a2 a3 a4 a5 a6 a7;generalize hE:wr.heap.size=E at *;go_upto_region 8 with fail
      have hpb:=AY.out.lt;have Zt:Hid (∀ W,Later pb W1 W->Rw8 W E (.int .i64 t.1.1) (.int .i64 t.1.2.1) (.slice o1 l1 c1) (.int .i64 t.2.1.1) (.int .i64 t.2.1.2.1) (.slice o2 l2 c2) (.int .i64 t.2.2.1) (.int .i64 t.2.2.2)):=fun W hl=>by
       have k:=(cO.out.later hl).1;refine ⟨?_,?_,?_,?_,?_,?_,?_,?_⟩<;>(rw [cell_of_row _ _ _ _ _ (0,0) k];rfl)
      have ZH:=hid (HLI.out.quiet Gw.out HP2.out);have HSL:Hid (∀ W,Later pb W1 W->Calls Tryz.prog 117 #[dZ t.1.1 t.1.2.1 o1 l1 c1,.pointer (some ⟨ca,0,none⟩),.pointer (some ⟨cb,0,none⟩),.pointer (some ⟨B+2,0,none⟩)] W (ShQ W (yh fr tt by' t.1) l1)):=fun W hl=>by
       have hl2:=ZH.out.trans hl;exact Hf t.1 fr tt by' W o1 l1 c1 ca cb (B+2) (H1b.out.later hl2).1 (H2b.out.later hl2).1 (H9b.out.later hl2).1 (HSA.out W hl) hbt hz1
      have HSR:Hid (∀ W,Later pb W1 W->Calls Tryz.prog 117 #[dZ t.2.1.1 t.2.1.2.1 o2 l2 c2,.pointer (some ⟨ca,0,none⟩),.pointer (some ⟨cb,0,none⟩),.pointer (some ⟨B+2,0,none⟩)] W (ShQ W (yh fr tt by' t.2.1) l2)):=fun W hl=>by
       have hl2:=ZH.out.trans hl;exact Hf t.2.1 fr tt by' W o2 l2 c2 ca cb (B+2) (H1b.out.later hl2).1 (H2b.out.later hl2).1 (H9b.out.later hl2).1 (Kq.out W hl) hbt hz2
      obtain ⟨tl,htl⟩:∃ tl,yh fr tt by' t.1=tl:=⟨_,rfl⟩;obtain ⟨tr,htr⟩:∃ tr,yh fr tt by' t.2.1=tr:=⟨_,rfl⟩;have hzl:tl.2.2.size<=100000:=by rw [<-htl];show (t.1.2.2.change _).size<=_;rw [Fo.qB];exact hz1
      have Wi:tr.2.2.size<=100000:=by rw [<-htr];show (t.2.1.2.2.change _).size<=_;rw [Fo.qB];exact hz2
      rw [htl] at HSL Zx;rw [htr] at HSR Zx;have xG:Hid (∀ (W:World) (p1:Option Addr) (d1:Nat) (p2:Option Addr) (d2:Nat),dV X1 most pb W uQ->aB (TF X1 pb W) W p1 l1 tl.2.2->aB (TF X1 pb W) W p2 l2 tr.2.2->Calls Tryz.prog 66 #[.pointer (some ⟨pb,0,none⟩),dZ tl.1 tl.2.1 p1 l1 d1,dZ tr.1 tr.2.1 p2 l2 d2,.agg #[.int .i64 t.2.2.1,.int .i64 t.2.2.2]] W (IB X1 most pb W mn)):=fun W p1 d1 p2 d2 hmw sw1 sw2=>by
       have k:=dO hmw hm tl tr t.2.2.1 t.2.2.2 (c1:=d1) (c2:=d2) sw1 sw2 hzl Wi;rw [Zx.out] at k;exact k
      obtain ⟨e0,e1,e2,e3,e4,e5,e6,e7⟩:=Zt.out W1 (Later.refl hpb);have hmk:=AY.out;have hlc:=Later.refl hpb;clear htl htr;unfold dZ at HSL HSR xG;go_region_held3 (fun W=>W.cell? ⟨E,0,none⟩=some (.int .i64 t.1.1)/\W.cell? ⟨E,1,none⟩=some (.int .i64 t.1.2.1)/\W.cell? ⟨E,2,none⟩=some (.slice o1 l1 c1)/\W.cell? ⟨E,3,none⟩=some (.int .i64 t.2.1.1)/\W.cell? ⟨E,4,none⟩=some (.int .i64 t.2.1.2.1)/\W.cell? ⟨E,5,none⟩=some (.slice o2 l2 c2)/\W.cell? ⟨E,6,none⟩=some (.int .i64 t.2.2.1)/\W.cell? ⟨E,7,none⟩=some (.int .i64 t.2.2.2))
       (((refine Zt.out _ ?_);(repeat with_reducible first | exact hlc | exact Later.refl hpb | refine jm hpb ?_ | refine jo hpb ?_)))
       (first
        | (go_at_call 117;(with_reducible refine Calls.mono (HSR.out _ ?hq) ?_);(case hq=>(repeat with_reducible first | exact hlc | exact Later.refl hpb | refine jm hpb ?_ | refine jo hpb ?_));rintro e wx ⟨p2,d2,rfl,hs2,gB⟩;(have hgd:=hs1;(refine Ua (pb:=pb) (X:=X1) (most:=most) (k:=uQ) (o:=p1) (len:=l1) (f:=tl.2.2) ?hm4 gB ?hs4 ?_;(case hm4=>(repeat with_reducible first | exact hmk | refine ja ?_ | refine jb ?_));(case hs4=>(repeat (first | with_reducible exact hs1 | ((with_reducible refine jH (pb:=pb) (X:=X1) (most:=most) (k:=uQ) ?wQ (ah.alloc _ _) ?_);(case wQ=>(repeat with_reducible first | exact hmk | refine ja ?_ | refine jb ?_))) | ((with_reducible refine jH (pb:=pb) (X:=X1) (most:=most) (k:=uQ) ?wQ (ah.drew _) ?_);(case wQ=>(repeat with_reducible first | exact hmk | refine ja ?_ | refine jb ?_))) | fail)));intro hs1);(refine qU (pb:=pb) (X:=X1) (most:=most) (k:=uQ) ?D8 gB hs2 ?_;(case D8=>(repeat with_reducible first | exact hmk | refine ja ?_ | refine jb ?_));intro hs2));(refine lS (pb:=pb) (X:=X1) (most:=most) (k:=uQ) (w0:=W1) ?hl2 ?hm2 gB ?_);(case hl2=>(repeat with_reducible first | exact hlc | exact Later.refl hpb | refine jm hpb ?_ | refine jo hpb ?_));(case hm2=>(repeat with_reducible first | exact hmk | refine ja ?_ | refine jb ?_));intro hlc hmk)
        | (go_at_call 117;(with_reducible refine Calls.mono (HSL.out _ ?hq) ?_);(case hq=>(repeat with_reducible first | exact hlc | exact Later.refl hpb | refine jm hpb ?_ | refine jo hpb ?_));rintro e wx ⟨p1,d1,rfl,hs1,gB⟩;(refine qU (pb:=pb) (X:=X1) (most:=most) (k:=uQ) ?D8 gB hs1 ?_;(case D8=>(repeat with_reducible first | exact hmk | refine ja ?_ | refine jb ?_));intro hs1);(refine lS (pb:=pb) (X:=X1) (most:=most) (k:=uQ) (w0:=W1) ?hl2 ?hm2 gB ?_);(case hl2=>(repeat with_reducible first | exact hlc | exact Later.refl hpb | refine jm hpb ?_ | refine jo hpb ?_));(case hm2=>(repeat with_reducible first | exact hmk | refine ja ?_ | refine jb ?_));intro hlc hmk)
        | ((go_at_call 66;(with_reducible refine Calls.mono (xG.out _ _ _ _ _ ?hm ?hs1 ?hs2) ?_));(case hm=>(repeat with_reducible first | exact hmk | refine ja ?_ | refine jb ?_));(case hs1=>(repeat (first | with_reducible exact hs1 | ((with_reducible refine jH (pb:=pb) (X:=X1) (most:=most) (k:=uQ) ?wQ (ah.alloc _ _) ?_);(case wQ=>(repeat with_reducible first | exact hmk | refine ja ?_ | refine jb ?_))) | ((with_reducible refine jH (pb:=pb) (X:=X1) (most:=most) (k:=uQ) ?wQ (ah.drew _) ?_);(case wQ=>(repeat with_reducible first | exact hmk | refine ja ?_ | refine jb ?_))) | fail)));(case hs2=>(repeat (first | with_reducible exact hs2 | ((with_reducible refine jH (pb:=pb) (X:=X1) (most:=most) (k:=uQ) ?wQ (ah.alloc _ _) ?_);(case wQ=>(repeat with_reducible first | exact hmk | refine ja ?_ | refine jb ?_))) | ((with_reducible refine jH (pb:=pb) (X:=X1) (most:=most) (k:=uQ) ?wQ (ah.drew _) ?_);(case wQ=>(repeat with_reducible first | exact hmk | refine ja ?_ | refine jb ?_))) | fail)));rintro e wx ⟨rfl,hmk,hlx⟩;(refine jc (pb:=pb) (w0:=W1) ?hl2 hlx ?_);(case hl2=>(repeat with_reducible first | exact hlc | exact Later.refl hpb | refine jm hpb ?_ | refine jo hpb ?_));intro hlc)
        | fail)
      all_goals
       go_wp2_with fail;go_roundw
       case rel =>
        exact ⟨i+1,mn,by go_num,by omega,abp.out,hmk,ZH.out.trans hlc⟩
       case measure=>simp [intOf];omega
     ·have tV : Hid (uQ = fin) := by
        show _=_
        rw [<-HPK.out,hdr]
        show _=(dh () _ uQ).2
        unfold dh;rw [if_pos hmb]
      rw [hmb] at hmc1;clear ht hdr hmb hts;go_upto_region 7 with fail
      change Code.wp _ _ _ _ (wr.alloc (.cells (ec t o1 l1 c1 o2 l2 c2) 74));rw [<-hW1];clear hW1 a0 a1 a2 a3 a4 a5 a6 a7;have hm7:=tV.out ▸ HMI.out.stay Gw.out;have Qi:=HLI.out.quiet Gw.out HP2.out;obtain ⟨n',hn'⟩:=Ub fr tt by' n;have HT:Hid (Calls Tryz.prog 117 #[dZ 1 n vo 0 vc,.pointer (some ⟨ca,0,none⟩),.pointer (some ⟨cb,0,none⟩),.pointer (some ⟨B+2,0,none⟩)] W1 (ShV W1 n')):=by
       have k:=Hf (tv n) fr tt by' W1 vo 0 vc ca cb (B+2) (H1b.out.later Qi).1 (H2b.out.later Qi).1 (H9b.out.later Qi).1 (kT.nil _ _) hbt (by show Fo.nil.size<=100000;decide);rw [hn'] at k;exact k.mono (fun e w' hh=>by obtain ⟨o',cap',e1,_,e3⟩:=hh;exact ⟨o',cap',e1,e3⟩)
      obtain ⟨v0,v1,v2,_,_,_⟩:=ay (H4b.out.later Qi).1;have HV8:=hid (H8b.out.later Qi);have HMZ:=hid hm7;have HLZ:=hid Qi;have HN':=hid hn';unfold dZ at HT;clear hn';go_wp2_with fail;refine HT.out.mono ?_;rintro e wy ⟨o2,cap2,rfl,Xz⟩;have ZI:=hid Xz;have Qj:=hid (HMZ.out.stay Xz);have hb8:=(HV8.out.later (Later.aT Xz HMZ.out.lt)).1;have D7:=hid hb8;obtain ⟨d0,d1,d2,y0,y1,y2⟩:=ay hb8;clear Xz hb8 v0 v1 v2;go_wp2_with fail;clear d0 d1 d2 y0 y1 y2;have hf:=bg wy (B+1) (.int .i64 1) (.int .i64 n') (.slice o2 0 cap2);obtain ⟨f0,f1,f2⟩:=aW (a:=.int .i64 1) (b:=.int .i64 n') (c:=.slice o2 0 cap2) D7.out;change bodyPost _ _ _ _ _ (bC wy (B+1) (.int .i64 1) (.int .i64 n') (.slice o2 0 cap2));generalize bC wy (B+1) (.int .i64 1) (.int .i64 n') (.slice o2 0 cap2)=wf at *;refine bodyPost_ret (by simp [results,Tryz.results116,go_sem,f0,f1,f2];rfl) rfl ?_;have hp:pb < W.heap.size:=by rw [dW];exact N7.out
      exact ⟨n',o2,cap2,HN'.out,rfl,(Qj.out.put (hf.mono (fun i _ e=>by rw [jO.out];exact Or.inr e))).less (fun i hi=>by rw [jO.out];exact Or.inl hi),((abo.out.trans HLZ.out).quiet ZI.out hp).put hf hp (fun i hi=>by omega)⟩
    ·have hlt':¬ (i:Int) < kept.length:=by omega
     have tV:Hid (uQ=fin):=by
      show _=_
      rw [<-HPK.out,List.drop_eq_nil_of_le (by omega)];rfl
     have hm7:=tV.out ▸ HMI.out;have Qi:=HLI.out;obtain ⟨n',hn'⟩:=Ub fr tt by' n;have HT:Hid (Calls Tryz.prog 117 #[dZ 1 n vo 0 vc,.pointer (some ⟨ca,0,none⟩),.pointer (some ⟨cb,0,none⟩),.pointer (some ⟨B+2,0,none⟩)] wr (ShV wr n')):=by
      have k:=Hf (tv n) fr tt by' wr vo 0 vc ca cb (B+2) (H1b.out.later Qi).1 (H2b.out.later Qi).1 (H9b.out.later Qi).1 (kT.nil _ _) hbt (by show Fo.nil.size<=100000;decide);rw [hn'] at k;exact k.mono (fun e w' hh=>by obtain ⟨o',cap',e1,_,e3⟩:=hh;exact ⟨o',cap',e1,e3⟩)
     obtain ⟨v0,v1,v2,_,_,_⟩:=ay (H4b.out.later Qi).1;have HV8:=hid (H8b.out.later Qi);have HMZ:=hid hm7;have HLZ:=hid Qi;have HN':=hid hn';unfold dZ at HT;clear hn';go_wp2_with fail;refine HT.out.mono ?_;rintro e wy ⟨o2,cap2,rfl,Xz⟩;have ZI:=hid Xz;have Qj:=hid (HMZ.out.stay Xz);have hb8:=(HV8.out.later (Later.aT Xz HMZ.out.lt)).1;have D7:=hid hb8;obtain ⟨d0,d1,d2,y0,y1,y2⟩:=ay hb8;clear Xz hb8 v0 v1 v2;go_wp2_with fail;clear d0 d1 d2 y0 y1 y2;have hf:=bg wy (B+1) (.int .i64 1) (.int .i64 n') (.slice o2 0 cap2);obtain ⟨f0,f1,f2⟩:=aW (a:=.int .i64 1) (b:=.int .i64 n') (c:=.slice o2 0 cap2) D7.out;change bodyPost _ _ _ _ _ (bC wy (B+1) (.int .i64 1) (.int .i64 n') (.slice o2 0 cap2));generalize bC wy (B+1) (.int .i64 1) (.int .i64 n') (.slice o2 0 cap2)=wf at *;refine bodyPost_ret (by simp [results,Tryz.results116,go_sem,f0,f1,f2];rfl) rfl ?_;have hp:pb < W.heap.size:=by rw [dW];exact N7.out
     exact ⟨n',o2,cap2,HN'.out,rfl,(Qj.out.put (hf.mono (fun i _ e=>by rw [jO.out];exact Or.inr e))).less (fun i hi=>by rw [jO.out];exact Or.inl hi),((abo.out.trans HLZ.out).quiet ZI.out hp).put hf hp (fun i hi=>by omega)⟩
theorem Qk:∀ args w,(callFunc 116 args).run Tryz.prog w=.ok (.enter 116 args) w:=enters_of Tryz.func116 (by kernel_rfl) rfl
theorem Dc {X : Nat -> Prop} {most : Int} {pb lo : Nat} {W : World} {mk : Mk} (hm : dV X most pb W mk) (pK : most <= 4096) (n fr tt : Nat) (kept : List mD) (ko : Option Addr) (kc : Nat) (vo : Option Addr) (vc : Nat)
    (hk:KeptAt pb W ko kept) (hkz:kept.length<=4096) (hks:∀ t∈kept,t.1.2.2.size<=100000/\t.2.1.2.2.size<=100000) (hft:fr<=tt) (hlo:tt<=lo) :
    Calls Tryz.prog 99 #[.slice ko kept.length kc,dZ 1 n vo 0 vc,.int .i64 fr,.int .i64 tt] W fun x w'=>∃ bs ls,x=.returned (.func bs #[] ls)/\jW most pb lo w' (.func bs #[] ls) (copied most kept (tv n) fr tt)/\ah W w':=by
 obtain ⟨W1,hW1⟩:∃ W1,W1=(((W.alloc (.cells #[.slice ko kept.length kc] 42)).alloc (.cells #[.int .i64 1,.int .i64 n,.slice vo 0 vc] 24)).alloc (.cells #[.int .i64 fr] 3)).alloc (.cells #[.int .i64 tt] 3):=⟨_,rfl⟩;have hq:ah W W1:=by rw [hW1];exact (((ah.alloc _ _).trans (ah.alloc _ _)).trans (ah.alloc _ _)).trans (ah.alloc _ _)
 have b0:W1.heap[W.heap.size]?=some (.cells #[.slice ko kept.length kc] 42 (0,0)):=by rw [hW1];exact au (((ah.alloc _ _).trans (ah.alloc _ _)).trans (ah.alloc _ _)) (heap_alloc_new W _)
 have b1:W1.heap[W.heap.size+1]?=some (.cells #[.int .i64 1,.int .i64 n,.slice vo 0 vc] 24 (0,0)):=by
  rw [hW1];refine au ((ah.alloc _ _).trans (ah.alloc _ _)) ?_;have:=heap_alloc_new (W.alloc (.cells #[.slice ko kept.length kc] 42)) (.cells #[.int .i64 1,.int .i64 n,.slice vo 0 vc] 24);simpa using this
 have b2:W1.heap[W.heap.size+1+1]?=some (.cells #[.int .i64 fr] 3 (0,0)):=by
  rw [hW1];refine au (ah.alloc _ _) ?_;have:=heap_alloc_new ((W.alloc (.cells #[.slice ko kept.length kc] 42)).alloc (.cells #[.int .i64 1,.int .i64 n,.slice vo 0 vc] 24)) (.cells #[.int .i64 fr] 3);simpa using this
 have b3:W1.heap[W.heap.size+1+1+1]?=some (.cells #[.int .i64 tt] 3 (0,0)):=by
  rw [hW1];have:=heap_alloc_new (((W.alloc (.cells #[.slice ko kept.length kc] 42)).alloc (.cells #[.int .i64 1,.int .i64 n,.slice vo 0 vc] 24)).alloc (.cells #[.int .i64 fr] 3)) (.cells #[.int .i64 tt] 3);simpa using this
 have x0:=Bx.new hm hq (Nat.le_refl _) b0;have x1:=Bx.new hm hq (by omega) b1;have x2:=Bx.new hm hq (by omega) b2;have x3:=Bx.new hm hq (by omega) b3;have hk1:=hk.later (Later.aT hq hm.lt);have HF:Hid (jW most pb lo W1 (.func (.func 116) #[] #[.pointer (some ⟨W.heap.size+1+1,0,none⟩),.pointer (some ⟨W.heap.size+1+1+1,0,none⟩),.pointer (some ⟨W.heap.size,0,none⟩),.pointer (some ⟨W.heap.size+1,0,none⟩)]) (copied most kept (tv n) fr tt)) :=
  ⟨_,_,rfl,Qk,fun W' X' mk' a b hl hm' adR hN=>Jz hm' pK n fr tt kept ko kc vo vc _ _ _ _ a b (x2.later hl) (x3.later hl) (x0.later hl) (x1.later hl) (hk1.later hl) hkz hks hft (by omega) hN⟩
 have HQ:=hid hq;clear hm hk hq b0 b1 b2 b3 x0 x1 x2 x3 hk1;unfold dZ;go_enter Tryz.func99,Tryz.ntmps99;go_upto_region 1 with fail
 rw [<-hW1];clear hW1;go_wp2_with fail;go_ret;exact ⟨_,_,rfl,HF.out,HQ.out⟩
end Em
end
section
open Go.RowKit
namespace Em
def kZ (most:Int) (h:Nd) (ps:To) (vs:List (Env->Pm Ty)) (e:Env) (own:Ty):Pm Ty :=
 if h.k=2 then bd (dw most own (2,0,.nil) h.fr h.en) fun _=>pu own
 else if h.k=3 then bd (dw most own (3,0,.nil) h.fr h.en) fun _=>pu own
 else if h.k=1 then bd (mF e h.nm) fun t=>bd (dw most own t h.fr h.en) fun _=>pu own
 else if h.k=4 then bd je fun b=>bd (wK vs 0 ((h.nm,pu b)::e)) fun t=>bd (dw most own (iY b t) h.fr h.en) fun _=>pu own
 else if h.k=6 then bd (vk most h (wK vs 0 e) fun c=>wK vs 1 ((h.nm,c)::e)) fun t=>bd (dw most own t h.fr h.en) fun _=>pu own
 else if h.k=7 then bd (vk most h (bd je fun v=>bd (wK vs 0 ((h.nm,pu v)::e)) fun t=>bd (dw most v t h.fr h.en) fun _=>pu v) fun c=>wK vs 1 ((h.nm,c)::e)) fun t=>bd (dw most own t h.fr h.en) fun _=>pu own
 else bd (jE e vs) fun p =>
  if h.k=5 then bd (dw most (qQ p 0) (iY (qQ p 1) own) h.fr h.en) fun _=>pu own
  else if h.k=8 then bd (dw most (qQ p 0) (3,0,.nil) (aH ps 0).1 (aH ps 0).2) fun _=>bd (dw most own (qQ p 1) (aH ps 1).1 (aH ps 1).2) fun _=>bd (dw most own (qQ p 2) (aH ps 2).1 (aH ps 2).2) fun _=>pu own
  else if h.k=9 then bd (dw most own (5,0,jF p) h.fr h.en) fun _=>pu own
  else if h.k=10 then bd (dw most (qQ p 0) (h.tk,h.tn,h.tp) (aH ps 0).1 (aH ps 0).2) fun _=>bd (dw most own (h.tk,h.tn,h.tp) h.fr h.en) fun _=>pu own
  else pu own
theorem JA (most:Int) (h:Nd) (ps:To) (e:Env) (mk:Mk):dF most h ps e mk=dh (tv mk.next) (kZ most h ps (bT most ps) e (tv mk.next)) { mk with next:=mk.next+1 }:=rfl
theorem Ql (most:Int) (h:Nd) (ps:To) (e:Env) (mk:Mk) (hm:mk.many=true):dF most h ps e mk=(tv mk.next,{ mk with next:=mk.next+1 }):=by
 rw [JA];unfold dh;rw [if_pos hm]
theorem XA (most:Int) (h:Nd) (ps:To) (e:Env) (mk:Mk) (hm:mk.many=false):dF most h ps e mk=kZ most h ps (bT most ps) e (tv mk.next) { mk with next:=mk.next+1 }:=by
 rw [JA];unfold dh;rw [if_neg (by rw [hm];decide)]
theorem yw {most:Int} {ps:To} {i:Nat} {h:Nd} {qs:To} (hg:ps.get i=some (h,qs)):wK (bT most ps) i=dF most h qs:=by
 funext e
 unfold wK;rw [List.getD_eq_getElem?_getD,zx most ps i h qs hg];rfl
theorem Uc {most:Int} {h:Nd} {ps:To} {vs:List (Env->Pm Ty)} {e:Env} {own:Ty} {m:Mk} (hk:h.k=2):kZ most h ps vs e own m=(own,(dw most own (2,0,.nil) h.fr h.en m).2):=by
 unfold kZ;rw [if_pos hk];rfl
theorem Qm {most:Int} {h:Nd} {ps:To} {vs:List (Env->Pm Ty)} {e:Env} {own:Ty} {m:Mk} (hk:h.k=3):kZ most h ps vs e own m=(own,(dw most own (3,0,.nil) h.fr h.en m).2):=by
 unfold kZ;rw [if_neg (by omega),if_pos hk];rfl
theorem Ud {most:Int} {h:Nd} {ps:To} {vs:List (Env->Pm Ty)} {e:Env} {own:Ty} {m:Mk} (hk:h.k=1):kZ most h ps vs e own m=(own,(dw most own (mF e h.nm m).1 h.fr h.en (mF e h.nm m).2).2):=by
 unfold kZ;rw [if_neg (by omega),if_neg (by omega),if_pos hk];rfl
theorem Ue {most : Int} {h : Nd} {ps : To} {vs : List (Env -> Pm Ty)} {e : Env} {own : Ty} {m : Mk} (hk : h.k = 4) : kZ most h ps vs e own m =
    (own,(dw most own (iY (tv m.next) (wK vs 0 ((h.nm,pu (tv m.next))::e) { m with next:=m.next+1 }).1) h.fr h.en (wK vs 0 ((h.nm,pu (tv m.next))::e) { m with next:=m.next+1 }).2).2):=by
 unfold kZ;rw [if_neg (by omega),if_neg (by omega),if_neg (by omega),if_pos hk];rfl
def firstM (most:Int) (h:Nd) (vs:List (Env->Pm Ty)) (e:Env):Pm Ty:=if h.k=6 then wK vs 0 e else bd je fun v=>bd (wK vs 0 ((h.nm,pu v)::e)) fun t=>bd (dw most v t h.fr h.en) fun _=>pu v
def ug (most:Int) (h:Nd) (vs:List (Env->Pm Ty)) (e:Env) (m:Mk):Pm Ty:=copied most ((firstM most h vs e m).2.eqs.drop m.eqs.length) (firstM most h vs e m).1 m.next (firstM most h vs e m).2.next
theorem JB {most : Int} {h : Nd} {ps : To} {vs : List (Env -> Pm Ty)} {e : Env} {own : Ty} {m : Mk} (hk : h.k = 6 ∨ h.k = 7) : kZ most h ps vs e own m =
    (own,(dw most own (wK vs 1 ((h.nm,ug most h vs e m)::e) (firstM most h vs e m).2).1 h.fr h.en (wK vs 1 ((h.nm,ug most h vs e m)::e) (firstM most h vs e m).2).2).2):=by
 unfold kZ ug firstM;rw [if_neg (by omega),if_neg (by omega),if_neg (by omega),if_neg (by omega)]
 by_cases h6:h.k=6
 ·rw [if_pos h6];simp only [if_pos h6];rfl
 ·rw [if_neg h6,if_pos (by omega)];simp only [if_neg h6];rfl
theorem Uf {most : Int} {h : Nd} {ps : To} {vs : List (Env -> Pm Ty)} {e : Env} {own : Ty} {m : Mk} (hk : h.k = 5) : kZ most h ps vs e own m =
    (own,(dw most (qQ (jE e vs m).1 0) (iY (qQ (jE e vs m).1 1) own) h.fr h.en (jE e vs m).2).2):=by
 unfold kZ;rw [if_neg (by omega),if_neg (by omega),if_neg (by omega),if_neg (by omega),if_neg (by omega),if_neg (by omega)];unfold bd;simp only [if_pos hk];rfl
theorem XB {most : Int} {h : Nd} {ps : To} {vs : List (Env -> Pm Ty)} {e : Env} {own : Ty} {m : Mk} (hk : h.k = 8) : kZ most h ps vs e own m =
    (own,(dw most own (qQ (jE e vs m).1 2) (aH ps 2).1 (aH ps 2).2 (dw most own (qQ (jE e vs m).1 1) (aH ps 1).1 (aH ps 1).2 (dw most (qQ (jE e vs m).1 0) (3,0,.nil) (aH ps 0).1 (aH ps 0).2 (jE e vs m).2).2).2).2):=by
 have n5:¬ h.k=5:=by omega
 unfold kZ;rw [if_neg (by omega),if_neg (by omega),if_neg (by omega),if_neg (by omega),if_neg (by omega),if_neg (by omega)];unfold bd;simp only [if_neg n5,if_pos hk];rfl
theorem Me {most : Int} {h : Nd} {ps : To} {vs : List (Env -> Pm Ty)} {e : Env} {own : Ty} {m : Mk} (hk : h.k = 9) : kZ most h ps vs e own m =
    (own,(dw most own (5,0,jF (jE e vs m).1) h.fr h.en (jE e vs m).2).2):=by
 have n5:¬ h.k=5:=by omega
 have n8:¬ h.k=8:=by omega
 unfold kZ;rw [if_neg (by omega),if_neg (by omega),if_neg (by omega),if_neg (by omega),if_neg (by omega),if_neg (by omega)];unfold bd;simp only [if_neg n5,if_neg n8,if_pos hk];rfl
theorem Ug {most : Int} {h : Nd} {ps : To} {vs : List (Env -> Pm Ty)} {e : Env} {own : Ty} {m : Mk} (hk : h.k = 10) : kZ most h ps vs e own m =
    (own,(dw most own (h.tk,h.tn,h.tp) h.fr h.en (dw most (qQ (jE e vs m).1 0) (h.tk,h.tn,h.tp) (aH ps 0).1 (aH ps 0).2 (jE e vs m).2).2).2):=by
 have n5:¬ h.k=5:=by omega
 have n8:¬ h.k=8:=by omega
 have n9:¬ h.k=9:=by omega
 unfold kZ;rw [if_neg (by omega),if_neg (by omega),if_neg (by omega),if_neg (by omega),if_neg (by omega),if_neg (by omega)];unfold bd;simp only [if_neg n5,if_neg n8,if_neg n9,if_pos hk];rfl
def Ri (h:Nd) (m:Nat):Prop:=(1<=h.k/\h.k<=10)/\(h.k=4->1<=m)/\(h.k=5->2<=m)/\(h.k=6->2<=m)/\(h.k=7->2<=m)/\(h.k=8->3<=m)/\(h.k=10->1<=m)/\h.tp.size<=100000
def vF:To->Prop
 | .nil=>True
 | .cons h ps r=>Ri h ps.length/\vF ps/\vF r
theorem gJ:∀ (f:To) (i:Nat) (h:Nd) (qs:To),vF f->f.get i=some (h,qs)->Ri h qs.length/\vF qs
 | .nil,i,h,qs,_,e=>by simp [To.get] at e
 | .cons h' ps r,0,h,qs,k,e=>by
  simp [To.get] at e;obtain ⟨rfl,rfl⟩:=e;exact ⟨k.1,k.2.1⟩
 | .cons h' ps r,i+1,h,qs,k,e=>gJ r i h qs k.2.2 e
abbrev names (e:iZ):List ByteArray:=e.map Prod.fst
theorem Fz:∀ (f:To) (k:Int) (nm:ByteArray) (i j:Nat) (e:List ByteArray) (h:Nd) (qs:To),Sc.nN k nm i e f=[]->f.get j=some (h,qs)->Sc.bP (Sc.bZ k nm (i+j) e) h qs=[]
 | .nil,_,_,_,_,_,_,_,_,hg=>by simp [To.get] at hg
 | .cons h' ps r,k,nm,i,0,e,h,qs,hf,hg=>by
  simp [To.get] at hg;obtain ⟨rfl,rfl⟩:=hg;unfold Sc.nN at hf;exact (List.append_eq_nil_iff.1 hf).1
 | .cons h' ps r,k,nm,i,j+1,e,h,qs,hf,hg=>by
  unfold Sc.nN at hf;have:=Fz r k nm (i+1) j e h qs (List.append_eq_nil_iff.1 hf).2 hg;rw [show i+(j+1)=i+1+j from by omega];exact this
theorem oK {e:List ByteArray} {h:Nd} {ps:To} {j:Nat} {g:Nd} {qs:To} (hf:Sc.bP e h ps=[]) (hk:h.k≠1) (hg:ps.get j=some (g,qs)):Sc.bP (Sc.bZ h.k h.nm j e) g qs=[]:=by
 unfold Sc.bP at hf;rw [if_neg hk] at hf;have:=Fz ps h.k h.nm 0 j e g qs hf hg
 rwa [Nat.zero_add] at this
theorem dV.ZJ {X:Nat->Prop} {most:Int} {pb:Nat} {W:World} {k:Mk} (h:dV X most pb W k) {i:Nat} (hr:Rw pb W i):pb < i:=by
 obtain ⟨o,c,xs,h⟩:=h;have e:=(h.Bh i).1 hr;exact (h.low i (by rw [e];rfl)).1
theorem fO {X R:Nat->Prop} {most:Int} {pb:Nat} {W W':World} {k:Mk} {o:Option Addr} {l:Nat} {f:To} (h:bD R W o l f) (hR:∀ i,R i->i < pb) (hm:dV X most pb W k) (hl:Later pb W W'):bD R W' o l f :=
 h.fr hl.fr (fun i _ hi=>⟨hi,fun e=>e.elim (fun e=>by have:=hR i hi;omega) (fun e=>by have:=hR i hi;have:=hm.ZJ e;omega)⟩)
theorem jI {X R:Nat->Prop} {most:Int} {pb:Nat} {W W':World} {k:Mk} {o:Option Addr} {l:Nat} {f:Fo} (h:aB R W o l f) (hR:∀ i,R i->i < pb) (hm:dV X most pb W k) (hl:Later pb W W'):aB R W' o l f :=
 h.fr hl.fr (fun i _ hi=>⟨hi,fun e=>e.elim (fun e=>by have:=hR i hi;omega) (fun e=>by have:=hR i hi;have:=hm.ZJ e;omega)⟩)
theorem fA {X:Nat->Prop} {most:Int} {pb:Nat} {W W':World} {k:Mk} {b off:Nat} {h:Nd} {o1:Option Addr} {l1 c1:Nat} {o2:Option Addr} {l2 c2:Nat} (hc:dJ W b off h o1 l1 c1 o2 l2 c2) (hb:b < pb) (hm:dV X most pb W k) (hl:Later pb W W'):dJ W' b off h o1 l1 c1 o2 l2 c2 :=
 hc.fr hl.fr (fun e=>e.elim (fun e=>by omega) (fun e=>by have:=hm.ZJ e;omega))
abbrev XC (pb:Nat) (W:World) (o:Option Addr) (n:Nat) (e:iZ):Prop:=mY (TF (fun _=>False) pb W) W o n e
theorem ZK {X:Nat->Prop} {most:Int} {pb:Nat} {W W':World} {k:Mk} {o:Option Addr} {n:Nat} {e:iZ} (hm:dV X most pb W k) (hq:ah W W') (h:mY (fun i=>W.heap.size<=i) W' o n e):XC pb W' o n e :=
 h.fr (Fr.refl (fun _=>False) W') (fun _ _ hi=>⟨⟨(hm.fresh hq hi).1,(hm.fresh hq hi).2.1,fun h=>h⟩,fun h=>h⟩)
def TmT (h:Nd) (ps:To):Prop:=∀ (W:World) (R X:Nat->Prop) (most:Int) (pb:Nat) (mk:Mk) (o1:Option Addr) (l1 c1:Nat) (o2:Option Addr) (l2 c2:Nat) (eo:Option Addr) (en ec:Nat) (e:iZ) (E:Env),
 aB R W o1 l1 h.tp->bD R W o2 l2 ps->(∀ i,R i->i < pb)->dV X most pb W mk->most<=4096->XC pb W eo en e->en<=ec->en+ps.size<=100000->sK most pb mk.next W e E->Ri h ps.length->vF ps->Sc.bP (names e) h ps=[]->(dF most h ps E mk).2.next<=Aa ->
 Calls Tryz.prog 42 #[.pointer (some ⟨pb,0,none⟩),bI h o1 l1 c1 o2 l2 c2,.slice eo en ec] W (Iz X most pb W (dF most h ps E mk))
end Em
end
end Go.Proofs.YtcninopmelmajaaGreatDoor
