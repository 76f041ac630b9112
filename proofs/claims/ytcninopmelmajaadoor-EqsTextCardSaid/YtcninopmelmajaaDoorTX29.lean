/-
  Texts laid together (EqCopy, EqRun): laws and walks, with their conditions.
-/
import Derived.Test.YtcninopmelmajaaDoorTX28
set_option maxHeartbeats 8000000
set_option maxRecDepth 1000000
namespace Go.Proofs.YtcninopmelmajaaDoor
open Go.Lib (hid)
section
open Go.RowKit
namespace Em
theorem lS {X:Nat->Prop} {most:Int} {pb:Nat} {w0 W w3:World} {k:Mk} {G:Prop} (hl:Later pb w0 W) (hm:dQ X most pb W k) (hq:ah W w3) (g:Later pb w0 w3->dQ X most pb w3 k->G):G:=g (hl.trans (Later.aS hq hm.lt)) (hm.stay hq)
theorem iQ {pb:Nat} {w0 W w3:World} {G:Prop} (hl:Later pb w0 W) (hq:Later pb W w3) (g:Later pb w0 w3->G):G:=g (hl.trans hq)
theorem jC {X:Nat->Prop} {most:Int} {pb:Nat} {W W':World} {k:Mk} {o:Option Addr} {len:Nat} {f:Fo} (hm:dQ X most pb W k) (hq:ah W W') (h:aB (TF X pb W) W o len f):aB (TF X pb W') W' o len f:=jc h (Later.aS hq hm.lt)
def Bx (pb:Nat) (W:World) (b:Nat) (cs:Array Value) (t:TypeId):Prop:=W.heap[b]?=some (.cells cs t (0,0))/\¬ (b=pb∨Rw pb W b)
theorem Bx.later {pb:Nat} {W W':World} {b:Nat} {cs:Array Value} {t:TypeId} (h:Bx pb W b cs t) (hl:Later pb W W'):Bx pb W' b cs t:=by
 have hb:=lt_of_block h.1;exact ⟨aC hl.fr h.2 h.1,fun e=>e.elim (fun e=>h.2 (.inl e)) (fun e=>(hl.row b e).elim (fun e=>h.2 (.inr e)) (fun e=>by omega))⟩
theorem Bx.new {X:Nat->Prop} {most:Int} {pb:Nat} {W W':World} {k:Mk} (h:dQ X most pb W k) (hq:ah W W') {b:Nat} {cs:Array Value} {t:TypeId} (hi:W.heap.size<=b) (hb:W'.heap[b]?=some (.cells cs t (0,0))):Bx pb W' b cs t:=by
 have:=h.fresh hq hi;exact ⟨hb,fun e=>e.elim this.1 this.2.1⟩
def KeptAt (pb:Nat) (W:World) (o:Option Addr) (l:List lF):Prop:=l=[]∨∃ g off,o=some ⟨g,off,none⟩/\∀ W',Later pb W W'->Ep (TF (fun _=>False) pb W') W' g off l
theorem KeptAt.later {pb:Nat} {W W':World} {o:Option Addr} {l:List lF} (h:KeptAt pb W o l) (hl:Later pb W W'):KeptAt pb W' o l:=by
 rcases h with h | ⟨g,off,h1,h2⟩
 ·exact .inl h
 ·exact .inr ⟨g,off,h1,fun W2 hl2=>h2 W2 (hl.trans hl2)⟩
def ShQ (W:World) (t:Ty) (len:Nat) (e:Ending) (w':World):Prop:=∃ o' cap',e=.returned (.agg #[.int .i64 t.1,.int .i64 t.2.1,.slice o' len cap'])/\aB (fun b=>W.heap.size<=b) w' o' len t.2.2/\ah W w'
def ShV (W:World) (n:Nat) (e:Ending) (w':World):Prop:=∃ o' cap',e=.returned (.agg #[.int .i64 1,.int .i64 n,.slice o' 0 cap'])/\ah W w'
theorem Ij (t : Ty) (fr tt by' : Nat) (w : World) (o : Option Addr) (len cap : Nat) (ca cb cc : Nat) (h1 : fQ w ca (.int .i64 fr) 3) (h2 : fQ w cb (.int .i64 tt) 3) (h3 : fQ w cc (.int .i64 by') 3) (hs : nJ w o len t.2.2) (hb : tt + by' <= 1000000000) (hsz : t.2.2.size <= 100000) :
    Calls Tryd.prog 78 #[fG t.1 t.2.1 o len cap,.pointer (some ⟨ca,0,none⟩),.pointer (some ⟨cb,0,none⟩),.pointer (some ⟨cc,0,none⟩)] w (ShQ w (yj fr tt by' t) len) :=
 Jb t.1 t.2.1 fr tt by' t.2.2 w o len cap ca cb cc h1 h2 h3 hs hb hsz
theorem Un {X:Nat->Prop} {most:Int} {pb:Nat} {W w3:World} {k:Mk} {o:Option Addr} {len:Nat} {f:Fo} {G:Prop} (hm:dQ X most pb W k) (hq:ah W w3) (h:aB (TF X pb W) W o len f) (g:aB (TF X pb w3) w3 o len f->G):G:=g (jC hm hq h)
theorem qN {X:Nat->Prop} {most:Int} {pb:Nat} {W w3:World} {k:Mk} {o:Option Addr} {len:Nat} {f:Fo} {G:Prop} (hm:dQ X most pb W k) (hq:ah W w3) (h:aB (fun b=>W.heap.size<=b) w3 o len f) (g:aB (TF X pb w3) w3 o len f->G):G:=g (hm.new hq h)
theorem Uo (fr tt d n:Nat):∃ n',yj fr tt d (tv n)=tv n':=by
 refine ⟨if fr<=n/\n < tt then n+d else n,?_⟩
 show ((1,BH fr tt d (n:Int),Fo.nil):Ty)=(1,((if fr<=n/\n < tt then n+d else n:Nat):Int),Fo.nil)
 unfold BH
 by_cases h:fr<=n/\n < tt
 ·rw [if_pos h,if_pos (by omega)];push_cast;rfl
 ·rw [if_neg h,if_neg (by omega)]
def ByR (W0:World) (b by':Nat) (v:Value) (wx:World):Prop:=v=.pointer (some ⟨b,0,none⟩)/\fQ wx b (.int .i64 by') 3/\ah W0 wx
theorem ByR.drew {W0:World} {b by':Nat} {v:Value} {wx:World} (h:ByR W0 b by' v wx):ByR W0 b by' v wx.drew:=⟨h.1,h.2.1.fr (ah.drew wx) (fun h=>h),h.2.2.trans (ah.drew _)⟩
theorem Ik {W0:World} {b by':Nat} (hz:W0.heap.size=b):ByR W0 b by' (.pointer (some ⟨b,0,none⟩)) (W0.alloc (.cells #[.int .i64 by'] 3)):=by
 subst hz;exact ⟨rfl,fQ.new _ _ _,ah.alloc _ _⟩
theorem dQ.bump {X:Nat->Prop} {most:Int} {pb:Nat} {W:World} {k:Mk} (h:dQ X most pb W k) (d:Nat):dQ X most pb (W.setCell ⟨pb,1,none⟩ (.int .i64 ((k.next:Int)+d))) { k with next:=k.next+d }/\Later pb W (W.setCell ⟨pb,1,none⟩ (.int .i64 ((k.next:Int)+d))):=by
 obtain ⟨o,c,xs,h⟩:=h;obtain ⟨h1,h2⟩:=h.GN (k':={ k with next:=k.next+d }) 1 (.int .i64 ((k.next:Int)+d)) (by decide) rfl (by simp);exact ⟨⟨o,c,xs,h1⟩,h2⟩
def CpI (X:Nat->Prop) (most:Int) (pb:Nat) (W2:World) (sh:Ty->Ty) (kept:List lF) (fin:Mk) (t:Value) (wr:World):Prop :=
 ∃ (i:Nat) (uS:Mk),t=.int .i64 i/\i<=kept.length/\(dS most sh (kept.drop i) uS).2=fin/\dQ X most pb wr uS/\Later pb W2 wr
theorem JU {X : Nat -> Prop} {most : Int} {pb : Nat} {W : World} {mk : Mk} (XL : dQ X most pb W mk) (hm : most <= 4096) (n fr tt : Nat) (kept : List lF) (ko : Option Addr) (kc : Nat) (vo : Option Addr) (vc ca cb ck cv : Nat) (a b : Int)
    (h1:Bx pb W ca #[.int .i64 fr] 3) (h2:Bx pb W cb #[.int .i64 tt] 3) (h3:Bx pb W ck #[.slice ko kept.length kc] 35) (h4:Bx pb W cv #[.int .i64 1,.int .i64 n,.slice vo 0 vc] 25)
    (hk:KeptAt pb W ko kept) (hkz:kept.length<=4096) (hks:∀ t∈kept,t.1.2.2.size<=100000/\t.2.1.2.2.size<=100000) (hft:fr<=tt) (hlo:tt<=mk.next) (hN:(copied most kept (tv n) fr tt mk).2.next<=Aj) :
    Calls Tryd.prog 77 #[.pointer (some ⟨pb,0,none⟩),.agg #[.int .i64 a,.int .i64 b],.pointer (some ⟨ca,0,none⟩),.pointer (some ⟨cb,0,none⟩),.pointer (some ⟨ck,0,none⟩),.pointer (some ⟨cv,0,none⟩)] W (I8 X most pb W (copied most kept (tv n) fr tt mk)):=by
 obtain ⟨W0,hW0⟩:∃ W0,W0=(W.alloc (.cells #[.int .i64 a,.int .i64 b] 28)).alloc (.cells #[.int .i64 0,.int .i64 0,.slice none 0 0] 25):=⟨_,rfl⟩;have hq0:ah W W0:=by rw [hW0];exact (ah.alloc _ _).trans (ah.alloc _ _)
 have hz0:W0.heap.size=W.heap.size+2:=by rw [hW0];simp
 have hB8:Bx pb W0 (W.heap.size+1) #[.int .i64 0,.int .i64 0,.slice none 0 0] 25:=by
  refine Bx.new XL hq0 (by omega) ?_;rw [hW0];have:=heap_alloc_new (W.alloc (.cells #[.int .i64 a,.int .i64 b] 28)) (.cells #[.int .i64 0,.int .i64 0,.slice none 0 0] 25);simpa using this
 have hm0:=XL.more hq0 (fun i=>i=W.heap.size+1) (fun i hi=>by subst hi;omega);have hpw:=XL.lt;have hl0:=Later.aS hq0 hpw;have yS:=hid hl0;have FY:=hid hm0;have Oh:=hid hpw;have HZ0:=hid hz0;have H1:=hid (h1.later hl0);have H2:=hid (h2.later hl0);have H3:=hid (h3.later hl0);have H4:=hid (h4.later hl0);have H8:=hid hB8;have HK:=hid (hk.later hl0);have HKS:=hid hks;obtain ⟨by',hby⟩:∃ by',mk.next-fr=by':=⟨_,rfl⟩
 have hnx:(copied most kept (tv n) fr tt mk).2.next=mk.next+(tt-fr):=by
  show (dS most (yj fr tt (mk.next-fr)) kept { mk with next:=mk.next+(tt-fr) }).2.next=_
  exact FV most _ kept _
 rw [hnx] at hN;replace hN:mk.next+(tt-fr)<=500000000:=hN
 obtain ⟨fin,hfin⟩:∃ fin,(dS most (yj fr tt by') kept { mk with next:=mk.next+(tt-fr) }).2=fin:=⟨_,rfl⟩;have hres:copied most kept (tv n) fr tt mk=(yj fr tt by' (tv n),fin):=by
  rw [<-hfin,<-hby];rfl
 rw [hres];obtain ⟨d,hd⟩:∃ d,tt-fr=d:=⟨_,rfl⟩;rw [hd] at hfin hN;have hw1:((mk.next:Int)-fr)=(by':Int):=by omega
 have hw2:IntKind.i64.wrap (by':Int)=(by':Int):=IntWalk.i64_in _ (by omega);have hw3:((tt:Int)-fr)=(d:Int):=by omega
 have hw4:IntKind.i64.wrap (d:Int)=(d:Int):=IntWalk.i64_in _ (by omega);have hw5:IntKind.i64.wrap ((mk.next:Int)+d)=(mk.next:Int)+d:=IntWalk.i64_in _ (by omega);have hbt:tt+by'<=1000000000:=by omega
 have hN1:mk.next<=500000000:=by omega
 have hN2:tt<=500000000:=by omega
 have bF:=hid hfin;clear XL hm0 hl0 hq0 h1 h2 h3 h4 hk hks hB8 hnx hres hfin;unfold I8;unfold fG;go_enter Tryd.func77,Tryd.ntmps77;generalize dV:W.heap.size=B at *;obtain ⟨X1,hX1⟩:∃ X1,X1=(fun i=>X i∨i=B+1):=⟨_,rfl⟩;rw [<-hX1] at FY;have jR:Hid (∀ i,X1 i=(X i∨i=B+1)):=fun i=>by rw [hX1]
 clear hX1;go_upto_region 1 with fail
 rw [<-hW0];clear hW0;obtain ⟨oo,oc,oxs,lg⟩:=FY.out;obtain ⟨q0,q1,q2,q3⟩:=bT lg.box;have u1:=cell_of_one H1.out.1;have hqa:=ah.alloc W0 (.cells #[.int .i64 0] 3);have q1':=hqa.at q1;have u1':=hqa.at u1;clear hqa;go_cut [9] (fun v9 wx=>ByR W0 (B+2) by' v9 wx)
 case first =>
  go_region_law (fail)
  all_goals
   go_wp2_with fail;go_meet
   first
    | with_reducible exact Ik HZ0.out
    | with_reducible exact (Ik HZ0.out).drew
    | with_reducible exact (Ik HZ0.out).drew.drew
 case rest =>
  rename World=>w1
  obtain ⟨rfl,gB,hq1⟩:=hcut;have hl1:=Later.aS hq1 FY.out.lt;have Wx:=hid (FY.out.stay hq1);have H91:=hid (Bx.new FY.out hq1 (b:=B+2) (by rw [HZ0.out];exact Nat.le_refl _) gB);have H11:=hid (H1.out.later hl1);have H21:=hid (H2.out.later hl1);have O1:=hid (yS.out.trans hl1);have abp:=hid hl1;clear q0 q1 q2 q3 u1 q1' u1' gB hq1 hl1;obtain ⟨oo,oc,oxs,lg⟩:=Wx.out;obtain ⟨q0,q1,q2,q3⟩:=bT lg.box;obtain ⟨f0,f1,f2,f3⟩:=uJ lg.box;have u1:=cell_of_one H11.out.1;have u2:=cell_of_one H21.out.1;have HBM:=hid (Wx.out.bump d);have HP1:=hid Wx.out.lt;clear lg;go_upto_region 2 with fail
  go_cut [22] (fun _ wx=>dQ X1 most pb wx { mk with next:=mk.next+d }/\Later pb w1 wx)
  case first =>
   go_region_law (fail)
   all_goals
    go_wp2_with fail;go_meet
    first
     | with_reducible exact ⟨HBM.out.1.stay (ah.drew _),HBM.out.2.quiet (ah.drew _) HP1.out⟩
     | with_reducible exact HBM.out
  case rest =>
   rename World=>w2
   obtain ⟨hm2,hl2⟩:=hcut;have Fe:=hid hm2;have Qu:=abp.out.trans hl2;have abq:=hid (yS.out.trans Qu);have H1b:=hid (H11.out.later hl2);have H2b:=hid (H21.out.later hl2);have H9b:=hid (H91.out.later hl2);have H3b:=hid (H3.out.later Qu);have H4b:=hid (H4.out.later Qu);have H8b:=hid (H8.out.later Qu);have HKb:=hid (HK.out.later Qu);have hp2:=hm2.lt;have HP2:=hid hp2;clear q0 q1 q2 q3 f0 f1 f2 f3 u1 u2 hm2 hl2 Qu hp2 Wx FY HBM HP1 H11 H21 H91 H1 H2 H3 H4 H8 HK yS O1 abp hw1 hw2 hw3 hw4 hw5;have k0:=cell_of_one H3b.out.1;go_wp2_with fail;clear k0;go_loopw [32] (fun t wr=>CpI X1 most pb w2 (yj fr tt by') kept fin t wr) (fun t _=>kept.length-(intOf t).toNat)
   case atStart=>exact ⟨0,_,rfl,Nat.zero_le _,bF.out,Fe.out,Later.refl HP2.out⟩
   case round =>
    obtain ⟨i,uS,rfl,hi,hpk,LZ,WJ⟩:=hrel;have HPK:=hid hpk;have HMI:=hid LZ;have YZ:=hid WJ;clear hpk LZ WJ
    by_cases hlt:i < kept.length
    ·have hlt':(i:Int) < kept.length:=by omega
     obtain ⟨t,ht⟩:∃ t,kept[i]?=some t:=⟨_,List.getElem?_eq_getElem hlt⟩;have hdr:kept.drop i=t::kept.drop (i+1):=by
      obtain ⟨h1,h2⟩:=List.getElem?_eq_some_iff.1 ht;rw [List.drop_eq_getElem_cons h1,h2]
     have hkq:∃ g off,ko=some ⟨g,off,none⟩/\Ep (TF (fun _=>False) pb wr) wr g off kept:=by
      rcases HKb.out with e | ⟨g,off,e1,e2⟩
      ·rw [e] at hlt;simp at hlt
      ·exact ⟨g,off,e1,e2 wr YZ.out⟩
     obtain ⟨g,off,rfl,hqa⟩:=hkq;obtain ⟨o1,l1,c1,o2,l2,c2,s1,s2,a0,a1,a2,a3,a4,a5,a6,a7⟩:=hqa i t ht;have hts:=HKS.out t (List.mem_of_getElem? ht);obtain ⟨mo,mc,mxs,lg⟩:=HMI.out;have hmc:=(bT lg.box).2.2.2;obtain ⟨W1,hW1⟩:∃ W1,W1=wr.alloc (.cells (ec t o1 l1 c1 o2 l2 c2) 43):=⟨_,rfl⟩;have EO:ah wr W1:=by rw [hW1];exact ah.alloc _ _
     have hbe:=Bx.new HMI.out EO (Nat.le_refl _) (by rw [hW1];exact heap_alloc_new wr (.cells (ec t o1 l1 c1 o2 l2 c2) 43));have bY:=hid hbe;have hmc1:=EO.at hmc;have G8:=hid EO;have HP3:=hid HMI.out.lt;have HSA:Hid (∀ W,Later pb W1 W->nJ W o1 l1 t.1.2.2):=fun W hl=>(jc s1 ((Later.aS G8.out HP3.out).trans hl)).slc
     have KR:Hid (∀ W,Later pb W1 W->nJ W o2 l2 t.2.1.2.2):=fun W hl=>(jc s2 ((Later.aS G8.out HP3.out).trans hl)).slc
     clear s1 s2 hqa lg EO hbe hmc;cases hmb:uS.many
     ·have abr : Hid ((dS most (yj fr tt by') (kept.drop (i + 1)) (dh most (yj fr tt by' t.1) (yj fr tt by' t.2.1) t.2.2.1 t.2.2.2 uS).2).2 = fin) := by
        show _=_
        rw [<-HPK.out,hdr]
        show _=(cZ () _ uS).2
        unfold cZ;rw [if_neg (by rw [hmb];decide)];rfl
      rw [hmb] at hmc1;obtain ⟨mn,hmn⟩:∃ mn,(dh most (yj fr tt by' t.1) (yj fr tt by' t.2.1) t.2.2.1 t.2.2.2 uS).2=mn:=⟨_,rfl⟩;rw [hmn] at abr;have HMN:=hid hmn;have hz1:=hts.1;have hz2:=hts.2;have Bh:=hid (HMI.out.stay G8.out);clear ht hdr hmn hts hmb;go_upto_region 7 with fail
      change Code.wp _ _ _ _ (wr.alloc (.cells (ec t o1 l1 c1 o2 l2 c2) 43));rw [<-hW1];clear hW1 a0 a1 a2 a3 a4 a5 a6 a7;generalize hE:wr.heap.size=E at *;go_upto_region 8 with fail
      have hpb:=Bh.out.lt;have ZM:Hid (∀ W,Later pb W1 W->Rw8 W E (.int .i64 t.1.1) (.int .i64 t.1.2.1) (.slice o1 l1 c1) (.int .i64 t.2.1.1) (.int .i64 t.2.1.2.1) (.slice o2 l2 c2) (.int .i64 t.2.2.1) (.int .i64 t.2.2.2)):=fun W hl=>by
       have k:=(bY.out.later hl).1;refine ⟨?_,?_,?_,?_,?_,?_,?_,?_⟩<;>(rw [cell_of_row _ _ _ _ _ (0,0) k];rfl)
      have ZY:=hid (YZ.out.quiet G8.out HP2.out);have HSL:Hid (∀ W,Later pb W1 W->Calls Tryd.prog 78 #[fG t.1.1 t.1.2.1 o1 l1 c1,.pointer (some ⟨ca,0,none⟩),.pointer (some ⟨cb,0,none⟩),.pointer (some ⟨B+2,0,none⟩)] W (ShQ W (yj fr tt by' t.1) l1)):=fun W hl=>by
       have hl2:=ZY.out.trans hl;exact Ij t.1 fr tt by' W o1 l1 c1 ca cb (B+2) (H1b.out.later hl2).1 (H2b.out.later hl2).1 (H9b.out.later hl2).1 (HSA.out W hl) hbt hz1
      have HSR:Hid (∀ W,Later pb W1 W->Calls Tryd.prog 78 #[fG t.2.1.1 t.2.1.2.1 o2 l2 c2,.pointer (some ⟨ca,0,none⟩),.pointer (some ⟨cb,0,none⟩),.pointer (some ⟨B+2,0,none⟩)] W (ShQ W (yj fr tt by' t.2.1) l2)):=fun W hl=>by
       have hl2:=ZY.out.trans hl;exact Ij t.2.1 fr tt by' W o2 l2 c2 ca cb (B+2) (H1b.out.later hl2).1 (H2b.out.later hl2).1 (H9b.out.later hl2).1 (KR.out W hl) hbt hz2
      obtain ⟨tl,htl⟩:∃ tl,yj fr tt by' t.1=tl:=⟨_,rfl⟩;obtain ⟨tr,htr⟩:∃ tr,yj fr tt by' t.2.1=tr:=⟨_,rfl⟩;have hzl:tl.2.2.size<=100000:=by rw [<-htl];show (t.1.2.2.change _).size<=_;rw [Fo.qm];exact hz1
      have WM:tr.2.2.size<=100000:=by rw [<-htr];show (t.2.1.2.2.change _).size<=_;rw [Fo.qm];exact hz2
      rw [htl] at HSL HMN;rw [htr] at HSR HMN;have xE:Hid (∀ (W:World) (p1:Option Addr) (d1:Nat) (p2:Option Addr) (d2:Nat),dQ X1 most pb W uS->aB (TF X1 pb W) W p1 l1 tl.2.2->aB (TF X1 pb W) W p2 l2 tr.2.2->Calls Tryd.prog 39 #[.pointer (some ⟨pb,0,none⟩),fG tl.1 tl.2.1 p1 l1 d1,fG tr.1 tr.2.1 p2 l2 d2,.agg #[.int .i64 t.2.2.1,.int .i64 t.2.2.2]] W (I9 X1 most pb W mn)):=fun W p1 d1 p2 d2 hmw sw1 sw2=>by
       have k:=dM hmw hm tl tr t.2.2.1 t.2.2.2 (c1:=d1) (c2:=d2) sw1 sw2 hzl WM;rw [HMN.out] at k;exact k
      obtain ⟨e0,e1,e2,e3,e4,e5,e6,e7⟩:=ZM.out W1 (Later.refl hpb);have hmk:=Bh.out;have hlc:=Later.refl hpb;clear htl htr;unfold fG at HSL HSR xE;go_region_held3 (fun W=>W.cell? ⟨E,0,none⟩=some (.int .i64 t.1.1)/\W.cell? ⟨E,1,none⟩=some (.int .i64 t.1.2.1)/\W.cell? ⟨E,2,none⟩=some (.slice o1 l1 c1)/\W.cell? ⟨E,3,none⟩=some (.int .i64 t.2.1.1)/\W.cell? ⟨E,4,none⟩=some (.int .i64 t.2.1.2.1)/\W.cell? ⟨E,5,none⟩=some (.slice o2 l2 c2)/\W.cell? ⟨E,6,none⟩=some (.int .i64 t.2.2.1)/\W.cell? ⟨E,7,none⟩=some (.int .i64 t.2.2.2))
       (((refine ZM.out _ ?_);(repeat with_reducible first | exact hlc | exact Later.refl hpb | refine jm hpb ?_ | refine jo hpb ?_)))
       (first
        | (go_at_call 78;(with_reducible refine Calls.mono (HSR.out _ ?hq) ?_);(case hq=>(repeat with_reducible first | exact hlc | exact Later.refl hpb | refine jm hpb ?_ | refine jo hpb ?_));rintro e wx ⟨p2,d2,rfl,hs2,fJ⟩;(have hgd:=hs1;(refine Un (pb:=pb) (X:=X1) (most:=most) (k:=uS) (o:=p1) (len:=l1) (f:=tl.2.2) ?hm4 fJ ?hs4 ?_;(case hm4=>(repeat with_reducible first | exact hmk | refine ja ?_ | refine jb ?_));(case hs4=>(repeat (first | with_reducible exact hs1 | ((with_reducible refine jC (pb:=pb) (X:=X1) (most:=most) (k:=uS) ?wR (ah.alloc _ _) ?_);(case wR=>(repeat with_reducible first | exact hmk | refine ja ?_ | refine jb ?_))) | ((with_reducible refine jC (pb:=pb) (X:=X1) (most:=most) (k:=uS) ?wR (ah.drew _) ?_);(case wR=>(repeat with_reducible first | exact hmk | refine ja ?_ | refine jb ?_))) | fail)));intro hs1);(refine qN (pb:=pb) (X:=X1) (most:=most) (k:=uS) ?Eu fJ hs2 ?_;(case Eu=>(repeat with_reducible first | exact hmk | refine ja ?_ | refine jb ?_));intro hs2));(refine lS (pb:=pb) (X:=X1) (most:=most) (k:=uS) (w0:=W1) ?hl2 ?hm2 fJ ?_);(case hl2=>(repeat with_reducible first | exact hlc | exact Later.refl hpb | refine jm hpb ?_ | refine jo hpb ?_));(case hm2=>(repeat with_reducible first | exact hmk | refine ja ?_ | refine jb ?_));intro hlc hmk)
        | (go_at_call 78;(with_reducible refine Calls.mono (HSL.out _ ?hq) ?_);(case hq=>(repeat with_reducible first | exact hlc | exact Later.refl hpb | refine jm hpb ?_ | refine jo hpb ?_));rintro e wx ⟨p1,d1,rfl,hs1,fJ⟩;(refine qN (pb:=pb) (X:=X1) (most:=most) (k:=uS) ?Eu fJ hs1 ?_;(case Eu=>(repeat with_reducible first | exact hmk | refine ja ?_ | refine jb ?_));intro hs1);(refine lS (pb:=pb) (X:=X1) (most:=most) (k:=uS) (w0:=W1) ?hl2 ?hm2 fJ ?_);(case hl2=>(repeat with_reducible first | exact hlc | exact Later.refl hpb | refine jm hpb ?_ | refine jo hpb ?_));(case hm2=>(repeat with_reducible first | exact hmk | refine ja ?_ | refine jb ?_));intro hlc hmk)
        | ((go_at_call 39;(with_reducible refine Calls.mono (xE.out _ _ _ _ _ ?hm ?hs1 ?hs2) ?_));(case hm=>(repeat with_reducible first | exact hmk | refine ja ?_ | refine jb ?_));(case hs1=>(repeat (first | with_reducible exact hs1 | ((with_reducible refine jC (pb:=pb) (X:=X1) (most:=most) (k:=uS) ?wR (ah.alloc _ _) ?_);(case wR=>(repeat with_reducible first | exact hmk | refine ja ?_ | refine jb ?_))) | ((with_reducible refine jC (pb:=pb) (X:=X1) (most:=most) (k:=uS) ?wR (ah.drew _) ?_);(case wR=>(repeat with_reducible first | exact hmk | refine ja ?_ | refine jb ?_))) | fail)));(case hs2=>(repeat (first | with_reducible exact hs2 | ((with_reducible refine jC (pb:=pb) (X:=X1) (most:=most) (k:=uS) ?wR (ah.alloc _ _) ?_);(case wR=>(repeat with_reducible first | exact hmk | refine ja ?_ | refine jb ?_))) | ((with_reducible refine jC (pb:=pb) (X:=X1) (most:=most) (k:=uS) ?wR (ah.drew _) ?_);(case wR=>(repeat with_reducible first | exact hmk | refine ja ?_ | refine jb ?_))) | fail)));rintro e wx ⟨rfl,hmk,hlx⟩;(refine iQ (pb:=pb) (w0:=W1) ?hl2 hlx ?_);(case hl2=>(repeat with_reducible first | exact hlc | exact Later.refl hpb | refine jm hpb ?_ | refine jo hpb ?_));intro hlc)
        | fail)
      all_goals
       go_wp2_with fail;go_roundw
       case rel =>
        exact ⟨i+1,mn,by go_num,by omega,abr.out,hmk,ZY.out.trans hlc⟩
       case measure=>simp [intOf];omega
     ·have tV : Hid (uS = fin) := by
        show _=_
        rw [<-HPK.out,hdr]
        show _=(cZ () _ uS).2
        unfold cZ;rw [if_pos hmb]
      rw [hmb] at hmc1;clear ht hdr hmb hts;go_upto_region 7 with fail
      change Code.wp _ _ _ _ (wr.alloc (.cells (ec t o1 l1 c1 o2 l2 c2) 43));rw [<-hW1];clear hW1 a0 a1 a2 a3 a4 a5 a6 a7;have hm7:=tV.out ▸ HMI.out.stay G8.out;have Qv:=YZ.out.quiet G8.out HP2.out;obtain ⟨n',hn'⟩:=Uo fr tt by' n;have HT:Hid (Calls Tryd.prog 78 #[fG 1 n vo 0 vc,.pointer (some ⟨ca,0,none⟩),.pointer (some ⟨cb,0,none⟩),.pointer (some ⟨B+2,0,none⟩)] W1 (ShV W1 n')):=by
       have k:=Ij (tv n) fr tt by' W1 vo 0 vc ca cb (B+2) (H1b.out.later Qv).1 (H2b.out.later Qv).1 (H9b.out.later Qv).1 (nJ.nil _ _) hbt (by show Fo.nil.size<=100000;decide);rw [hn'] at k;exact k.mono (fun e w' hh=>by obtain ⟨o',cap',e1,_,e3⟩:=hh;exact ⟨o',cap',e1,e3⟩)
      obtain ⟨v0,v1,v2,_,_,_⟩:=ay (H4b.out.later Qv).1;have HV8:=hid (H8b.out.later Qv);have HMZ:=hid hm7;have HLZ:=hid Qv;have HN':=hid hn';unfold fG at HT;clear hn';go_wp2_with fail;refine HT.out.mono ?_;rintro e wy ⟨o2,cap2,rfl,XM⟩;have Z4:=hid XM;have Qw:=hid (HMZ.out.stay XM);have hb8:=(HV8.out.later (Later.aS XM HMZ.out.lt)).1;have Et:=hid hb8;obtain ⟨d0,d1,d2,y0,y1,y2⟩:=ay hb8;clear XM hb8 v0 v1 v2;go_wp2_with fail;clear d0 d1 d2 y0 y1 y2;have hf:=aZ wy (B+1) (.int .i64 1) (.int .i64 n') (.slice o2 0 cap2);obtain ⟨f0,f1,f2⟩:=aV (a:=.int .i64 1) (b:=.int .i64 n') (c:=.slice o2 0 cap2) Et.out;change bodyPost _ _ _ _ _ (bf wy (B+1) (.int .i64 1) (.int .i64 n') (.slice o2 0 cap2));generalize bf wy (B+1) (.int .i64 1) (.int .i64 n') (.slice o2 0 cap2)=wf at *;refine bodyPost_ret (by simp [results,Tryd.results77,go_sem,f0,f1,f2];rfl) rfl ?_;have hp:pb < W.heap.size:=by rw [dV];exact Oh.out
      exact ⟨n',o2,cap2,HN'.out,rfl,(Qw.out.put (hf.mono (fun i _ e=>by rw [jR.out];exact Or.inr e))).less (fun i hi=>by rw [jR.out];exact Or.inl hi),((abq.out.trans HLZ.out).quiet Z4.out hp).put hf hp (fun i hi=>by omega)⟩
    ·have hlt':¬ (i:Int) < kept.length:=by omega
     have tV:Hid (uS=fin):=by
      show _=_
      rw [<-HPK.out,List.drop_eq_nil_of_le (by omega)];rfl
     have hm7:=tV.out ▸ HMI.out;have Qv:=YZ.out;obtain ⟨n',hn'⟩:=Uo fr tt by' n;have HT:Hid (Calls Tryd.prog 78 #[fG 1 n vo 0 vc,.pointer (some ⟨ca,0,none⟩),.pointer (some ⟨cb,0,none⟩),.pointer (some ⟨B+2,0,none⟩)] wr (ShV wr n')):=by
      have k:=Ij (tv n) fr tt by' wr vo 0 vc ca cb (B+2) (H1b.out.later Qv).1 (H2b.out.later Qv).1 (H9b.out.later Qv).1 (nJ.nil _ _) hbt (by show Fo.nil.size<=100000;decide);rw [hn'] at k;exact k.mono (fun e w' hh=>by obtain ⟨o',cap',e1,_,e3⟩:=hh;exact ⟨o',cap',e1,e3⟩)
     obtain ⟨v0,v1,v2,_,_,_⟩:=ay (H4b.out.later Qv).1;have HV8:=hid (H8b.out.later Qv);have HMZ:=hid hm7;have HLZ:=hid Qv;have HN':=hid hn';unfold fG at HT;clear hn';go_wp2_with fail;refine HT.out.mono ?_;rintro e wy ⟨o2,cap2,rfl,XM⟩;have Z4:=hid XM;have Qw:=hid (HMZ.out.stay XM);have hb8:=(HV8.out.later (Later.aS XM HMZ.out.lt)).1;have Et:=hid hb8;obtain ⟨d0,d1,d2,y0,y1,y2⟩:=ay hb8;clear XM hb8 v0 v1 v2;go_wp2_with fail;clear d0 d1 d2 y0 y1 y2;have hf:=aZ wy (B+1) (.int .i64 1) (.int .i64 n') (.slice o2 0 cap2);obtain ⟨f0,f1,f2⟩:=aV (a:=.int .i64 1) (b:=.int .i64 n') (c:=.slice o2 0 cap2) Et.out;change bodyPost _ _ _ _ _ (bf wy (B+1) (.int .i64 1) (.int .i64 n') (.slice o2 0 cap2));generalize bf wy (B+1) (.int .i64 1) (.int .i64 n') (.slice o2 0 cap2)=wf at *;refine bodyPost_ret (by simp [results,Tryd.results77,go_sem,f0,f1,f2];rfl) rfl ?_;have hp:pb < W.heap.size:=by rw [dV];exact Oh.out
     exact ⟨n',o2,cap2,HN'.out,rfl,(Qw.out.put (hf.mono (fun i _ e=>by rw [jR.out];exact Or.inr e))).less (fun i hi=>by rw [jR.out];exact Or.inl hi),((abq.out.trans HLZ.out).quiet Z4.out hp).put hf hp (fun i hi=>by omega)⟩
theorem Qx:∀ args w,(callFunc 77 args).run Tryd.prog w=.ok (.enter 77 args) w:=enters_of Tryd.func77 (by kernel_rfl) rfl
theorem Dw {X : Nat -> Prop} {most : Int} {pb lo : Nat} {W : World} {mk : Mk} (hm : dQ X most pb W mk) (oZ : most <= 4096) (n fr tt : Nat) (kept : List lF) (ko : Option Addr) (kc : Nat) (vo : Option Addr) (vc : Nat)
    (hk:KeptAt pb W ko kept) (hkz:kept.length<=4096) (hks:∀ t∈kept,t.1.2.2.size<=100000/\t.2.1.2.2.size<=100000) (hft:fr<=tt) (hlo:tt<=lo) :
    Calls Tryd.prog 62 #[.slice ko kept.length kc,fG 1 n vo 0 vc,.int .i64 fr,.int .i64 tt] W fun x w'=>∃ bs ls,x=.returned (.func bs #[] ls)/\jO most pb lo w' (.func bs #[] ls) (copied most kept (tv n) fr tt)/\ah W w':=by
 obtain ⟨W1,hW1⟩:∃ W1,W1=(((W.alloc (.cells #[.slice ko kept.length kc] 35)).alloc (.cells #[.int .i64 1,.int .i64 n,.slice vo 0 vc] 25)).alloc (.cells #[.int .i64 fr] 3)).alloc (.cells #[.int .i64 tt] 3):=⟨_,rfl⟩;have hq:ah W W1:=by rw [hW1];exact (((ah.alloc _ _).trans (ah.alloc _ _)).trans (ah.alloc _ _)).trans (ah.alloc _ _)
 have b0:W1.heap[W.heap.size]?=some (.cells #[.slice ko kept.length kc] 35 (0,0)):=by rw [hW1];exact au (((ah.alloc _ _).trans (ah.alloc _ _)).trans (ah.alloc _ _)) (heap_alloc_new W _)
 have b1:W1.heap[W.heap.size+1]?=some (.cells #[.int .i64 1,.int .i64 n,.slice vo 0 vc] 25 (0,0)):=by
  rw [hW1];refine au ((ah.alloc _ _).trans (ah.alloc _ _)) ?_;have:=heap_alloc_new (W.alloc (.cells #[.slice ko kept.length kc] 35)) (.cells #[.int .i64 1,.int .i64 n,.slice vo 0 vc] 25);simpa using this
 have b2:W1.heap[W.heap.size+1+1]?=some (.cells #[.int .i64 fr] 3 (0,0)):=by
  rw [hW1];refine au (ah.alloc _ _) ?_;have:=heap_alloc_new ((W.alloc (.cells #[.slice ko kept.length kc] 35)).alloc (.cells #[.int .i64 1,.int .i64 n,.slice vo 0 vc] 25)) (.cells #[.int .i64 fr] 3);simpa using this
 have b3:W1.heap[W.heap.size+1+1+1]?=some (.cells #[.int .i64 tt] 3 (0,0)):=by
  rw [hW1];have:=heap_alloc_new (((W.alloc (.cells #[.slice ko kept.length kc] 35)).alloc (.cells #[.int .i64 1,.int .i64 n,.slice vo 0 vc] 25)).alloc (.cells #[.int .i64 fr] 3)) (.cells #[.int .i64 tt] 3);simpa using this
 have x0:=Bx.new hm hq (Nat.le_refl _) b0;have x1:=Bx.new hm hq (by omega) b1;have x2:=Bx.new hm hq (by omega) b2;have x3:=Bx.new hm hq (by omega) b3;have hk1:=hk.later (Later.aS hq hm.lt);have HF:Hid (jO most pb lo W1 (.func (.func 77) #[] #[.pointer (some ⟨W.heap.size+1+1,0,none⟩),.pointer (some ⟨W.heap.size+1+1+1,0,none⟩),.pointer (some ⟨W.heap.size,0,none⟩),.pointer (some ⟨W.heap.size+1,0,none⟩)]) (copied most kept (tv n) fr tt)) :=
  ⟨_,_,rfl,Qx,fun W' X' mk' a b hl hm' adX hN=>JU hm' oZ n fr tt kept ko kc vo vc _ _ _ _ a b (x2.later hl) (x3.later hl) (x0.later hl) (x1.later hl) (hk1.later hl) hkz hks hft (by omega) hN⟩
 have HQ:=hid hq;clear hm hk hq b0 b1 b2 b3 x0 x1 x2 x3 hk1;unfold fG;go_enter Tryd.func62,Tryd.ntmps62;go_upto_region 1 with fail
 rw [<-hW1];clear hW1;go_wp2_with fail;go_ret;exact ⟨_,_,rfl,HF.out,HQ.out⟩
end Em
end
section
open Go.RowKit
namespace Em
def kQ (most:Int) (h:Nd) (ps:To) (vs:List (Env->Pm Ty)) (e:Env) (own:Ty):Pm Ty :=
 if h.k=2 then bd (dh most own (2,0,.nil) h.fr h.en) fun _=>pu own
 else if h.k=3 then bd (dh most own (3,0,.nil) h.fr h.en) fun _=>pu own
 else if h.k=1 then bd (mD e h.nm) fun t=>bd (dh most own t h.fr h.en) fun _=>pu own
 else if h.k=4 then bd iV fun b=>bd (wM vs 0 ((h.nm,pu b)::e)) fun t=>bd (dh most own (iO b t) h.fr h.en) fun _=>pu own
 else if h.k=6 then bd (vw most h (wM vs 0 e) fun c=>wM vs 1 ((h.nm,c)::e)) fun t=>bd (dh most own t h.fr h.en) fun _=>pu own
 else if h.k=7 then bd (vw most h (bd iV fun v=>bd (wM vs 0 ((h.nm,pu v)::e)) fun t=>bd (dh most v t h.fr h.en) fun _=>pu v) fun c=>wM vs 1 ((h.nm,c)::e)) fun t=>bd (dh most own t h.fr h.en) fun _=>pu own
 else bd (jw e vs) fun p =>
  if h.k=5 then bd (dh most (qL p 0) (iO (qL p 1) own) h.fr h.en) fun _=>pu own
  else if h.k=8 then bd (dh most (qL p 0) (3,0,.nil) (aH ps 0).1 (aH ps 0).2) fun _=>bd (dh most own (qL p 1) (aH ps 1).1 (aH ps 1).2) fun _=>bd (dh most own (qL p 2) (aH ps 2).1 (aH ps 2).2) fun _=>pu own
  else if h.k=9 then bd (dh most own (5,0,jy p) h.fr h.en) fun _=>pu own
  else if h.k=10 then bd (dh most (qL p 0) (h.tk,h.tn,h.tp) (aH ps 0).1 (aH ps 0).2) fun _=>bd (dh most own (h.tk,h.tn,h.tp) h.fr h.en) fun _=>pu own
  else pu own
theorem JV (most:Int) (h:Nd) (ps:To) (e:Env) (mk:Mk):dw most h ps e mk=cZ (tv mk.next) (kQ most h ps (bQ most ps) e (tv mk.next)) { mk with next:=mk.next+1 }:=rfl
theorem Qy (most:Int) (h:Nd) (ps:To) (e:Env) (mk:Mk) (hm:mk.many=true):dw most h ps e mk=(tv mk.next,{ mk with next:=mk.next+1 }):=by
 rw [JV];unfold cZ;rw [if_pos hm]
theorem XP (most:Int) (h:Nd) (ps:To) (e:Env) (mk:Mk) (hm:mk.many=false):dw most h ps e mk=kQ most h ps (bQ most ps) e (tv mk.next) { mk with next:=mk.next+1 }:=by
 rw [JV];unfold cZ;rw [if_neg (by rw [hm];decide)]
theorem yw {most:Int} {ps:To} {i:Nat} {h:Nd} {qs:To} (hg:ps.get i=some (h,qs)):wM (bQ most ps) i=dw most h qs:=by
 funext e
 unfold wM;rw [List.getD_eq_getElem?_getD,zB most ps i h qs hg];rfl
theorem Ur {most:Int} {h:Nd} {ps:To} {vs:List (Env->Pm Ty)} {e:Env} {own:Ty} {m:Mk} (hk:h.k=2):kQ most h ps vs e own m=(own,(dh most own (2,0,.nil) h.fr h.en m).2):=by
 unfold kQ;rw [if_pos hk];rfl
theorem Qz {most:Int} {h:Nd} {ps:To} {vs:List (Env->Pm Ty)} {e:Env} {own:Ty} {m:Mk} (hk:h.k=3):kQ most h ps vs e own m=(own,(dh most own (3,0,.nil) h.fr h.en m).2):=by
 unfold kQ;rw [if_neg (by omega),if_pos hk];rfl
theorem Us {most:Int} {h:Nd} {ps:To} {vs:List (Env->Pm Ty)} {e:Env} {own:Ty} {m:Mk} (hk:h.k=1):kQ most h ps vs e own m=(own,(dh most own (mD e h.nm m).1 h.fr h.en (mD e h.nm m).2).2):=by
 unfold kQ;rw [if_neg (by omega),if_neg (by omega),if_pos hk];rfl
theorem Ut {most : Int} {h : Nd} {ps : To} {vs : List (Env -> Pm Ty)} {e : Env} {own : Ty} {m : Mk} (hk : h.k = 4) : kQ most h ps vs e own m =
    (own,(dh most own (iO (tv m.next) (wM vs 0 ((h.nm,pu (tv m.next))::e) { m with next:=m.next+1 }).1) h.fr h.en (wM vs 0 ((h.nm,pu (tv m.next))::e) { m with next:=m.next+1 }).2).2):=by
 unfold kQ;rw [if_neg (by omega),if_neg (by omega),if_neg (by omega),if_pos hk];rfl
def firstM (most:Int) (h:Nd) (vs:List (Env->Pm Ty)) (e:Env):Pm Ty:=if h.k=6 then wM vs 0 e else bd iV fun v=>bd (wM vs 0 ((h.nm,pu v)::e)) fun t=>bd (dh most v t h.fr h.en) fun _=>pu v
def uf (most:Int) (h:Nd) (vs:List (Env->Pm Ty)) (e:Env) (m:Mk):Pm Ty:=copied most ((firstM most h vs e m).2.eqs.drop m.eqs.length) (firstM most h vs e m).1 m.next (firstM most h vs e m).2.next
theorem JW {most : Int} {h : Nd} {ps : To} {vs : List (Env -> Pm Ty)} {e : Env} {own : Ty} {m : Mk} (hk : h.k = 6 ∨ h.k = 7) : kQ most h ps vs e own m =
    (own,(dh most own (wM vs 1 ((h.nm,uf most h vs e m)::e) (firstM most h vs e m).2).1 h.fr h.en (wM vs 1 ((h.nm,uf most h vs e m)::e) (firstM most h vs e m).2).2).2):=by
 unfold kQ uf firstM;rw [if_neg (by omega),if_neg (by omega),if_neg (by omega),if_neg (by omega)]
 by_cases h6:h.k=6
 ·rw [if_pos h6];simp only [if_pos h6];rfl
 ·rw [if_neg h6,if_pos (by omega)];simp only [if_neg h6];rfl
theorem Uu {most : Int} {h : Nd} {ps : To} {vs : List (Env -> Pm Ty)} {e : Env} {own : Ty} {m : Mk} (hk : h.k = 5) : kQ most h ps vs e own m =
    (own,(dh most (qL (jw e vs m).1 0) (iO (qL (jw e vs m).1 1) own) h.fr h.en (jw e vs m).2).2):=by
 unfold kQ;rw [if_neg (by omega),if_neg (by omega),if_neg (by omega),if_neg (by omega),if_neg (by omega),if_neg (by omega)];unfold bd;simp only [if_pos hk];rfl
theorem XQ {most : Int} {h : Nd} {ps : To} {vs : List (Env -> Pm Ty)} {e : Env} {own : Ty} {m : Mk} (hk : h.k = 8) : kQ most h ps vs e own m =
    (own,(dh most own (qL (jw e vs m).1 2) (aH ps 2).1 (aH ps 2).2 (dh most own (qL (jw e vs m).1 1) (aH ps 1).1 (aH ps 1).2 (dh most (qL (jw e vs m).1 0) (3,0,.nil) (aH ps 0).1 (aH ps 0).2 (jw e vs m).2).2).2).2):=by
 have n5:¬ h.k=5:=by omega
 unfold kQ;rw [if_neg (by omega),if_neg (by omega),if_neg (by omega),if_neg (by omega),if_neg (by omega),if_neg (by omega)];unfold bd;simp only [if_neg n5,if_pos hk];rfl
theorem MK {most : Int} {h : Nd} {ps : To} {vs : List (Env -> Pm Ty)} {e : Env} {own : Ty} {m : Mk} (hk : h.k = 9) : kQ most h ps vs e own m =
    (own,(dh most own (5,0,jy (jw e vs m).1) h.fr h.en (jw e vs m).2).2):=by
 have n5:¬ h.k=5:=by omega
 have n8:¬ h.k=8:=by omega
 unfold kQ;rw [if_neg (by omega),if_neg (by omega),if_neg (by omega),if_neg (by omega),if_neg (by omega),if_neg (by omega)];unfold bd;simp only [if_neg n5,if_neg n8,if_pos hk];rfl
theorem Uw {most : Int} {h : Nd} {ps : To} {vs : List (Env -> Pm Ty)} {e : Env} {own : Ty} {m : Mk} (hk : h.k = 10) : kQ most h ps vs e own m =
    (own,(dh most own (h.tk,h.tn,h.tp) h.fr h.en (dh most (qL (jw e vs m).1 0) (h.tk,h.tn,h.tp) (aH ps 0).1 (aH ps 0).2 (jw e vs m).2).2).2):=by
 have n5:¬ h.k=5:=by omega
 have n8:¬ h.k=8:=by omega
 have n9:¬ h.k=9:=by omega
 unfold kQ;rw [if_neg (by omega),if_neg (by omega),if_neg (by omega),if_neg (by omega),if_neg (by omega),if_neg (by omega)];unfold bd;simp only [if_neg n5,if_neg n8,if_neg n9,if_pos hk];rfl
def KU (h:Nd) (m:Nat):Prop:=(1<=h.k/\h.k<=10)/\(h.k=4->1<=m)/\(h.k=5->2<=m)/\(h.k=6->2<=m)/\(h.k=7->2<=m)/\(h.k=8->3<=m)/\(h.k=10->1<=m)/\h.tp.size<=100000
def rH:To->Prop
 | .nil=>True
 | .cons h ps r=>KU h ps.length/\rH ps/\rH r
theorem fO:∀ (f:To) (i:Nat) (h:Nd) (qs:To),rH f->f.get i=some (h,qs)->KU h qs.length/\rH qs
 | .nil,i,h,qs,_,e=>by simp [To.get] at e
 | .cons h' ps r,0,h,qs,k,e=>by
  simp [To.get] at e;obtain ⟨rfl,rfl⟩:=e;exact ⟨k.1,k.2.1⟩
 | .cons h' ps r,i+1,h,qs,k,e=>fO r i h qs k.2.2 e
abbrev names (e:iP):List ByteArray:=e.map Prod.fst
theorem FZ:∀ (f:To) (k:Int) (nm:ByteArray) (i j:Nat) (e:List ByteArray) (h:Nd) (qs:To),Sc.lM k nm i e f=[]->f.get j=some (h,qs)->Sc.bM (Sc.bW k nm (i+j) e) h qs=[]
 | .nil,_,_,_,_,_,_,_,_,hg=>by simp [To.get] at hg
 | .cons h' ps r,k,nm,i,0,e,h,qs,hf,hg=>by
  simp [To.get] at hg;obtain ⟨rfl,rfl⟩:=hg;unfold Sc.lM at hf;exact (List.append_eq_nil_iff.1 hf).1
 | .cons h' ps r,k,nm,i,j+1,e,h,qs,hf,hg=>by
  unfold Sc.lM at hf;have:=FZ r k nm (i+1) j e h qs (List.append_eq_nil_iff.1 hf).2 hg;rw [show i+(j+1)=i+1+j from by omega];exact this
theorem oC {e:List ByteArray} {h:Nd} {ps:To} {j:Nat} {g:Nd} {qs:To} (hf:Sc.bM e h ps=[]) (hk:h.k≠1) (hg:ps.get j=some (g,qs)):Sc.bM (Sc.bW h.k h.nm j e) g qs=[]:=by
 unfold Sc.bM at hf;rw [if_neg hk] at hf;have:=FZ ps h.k h.nm 0 j e g qs hf hg
 rwa [Nat.zero_add] at this
theorem dQ.Z5 {X:Nat->Prop} {most:Int} {pb:Nat} {W:World} {k:Mk} (h:dQ X most pb W k) {i:Nat} (hr:Rw pb W i):pb < i:=by
 obtain ⟨o,c,xs,h⟩:=h;have e:=(h.BD i).1 hr;exact (h.low i (by rw [e];rfl)).1
theorem eY {X R:Nat->Prop} {most:Int} {pb:Nat} {W W':World} {k:Mk} {o:Option Addr} {l:Nat} {f:To} (h:bC R W o l f) (hR:∀ i,R i->i < pb) (hm:dQ X most pb W k) (hl:Later pb W W'):bC R W' o l f :=
 h.fr hl.fr (fun i _ hi=>⟨hi,fun e=>e.elim (fun e=>by have:=hR i hi;omega) (fun e=>by have:=hR i hi;have:=hm.Z5 e;omega)⟩)
theorem jD {X R:Nat->Prop} {most:Int} {pb:Nat} {W W':World} {k:Mk} {o:Option Addr} {l:Nat} {f:Fo} (h:aB R W o l f) (hR:∀ i,R i->i < pb) (hm:dQ X most pb W k) (hl:Later pb W W'):aB R W' o l f :=
 h.fr hl.fr (fun i _ hi=>⟨hi,fun e=>e.elim (fun e=>by have:=hR i hi;omega) (fun e=>by have:=hR i hi;have:=hm.Z5 e;omega)⟩)
theorem eu {X:Nat->Prop} {most:Int} {pb:Nat} {W W':World} {k:Mk} {b off:Nat} {h:Nd} {o1:Option Addr} {l1 c1:Nat} {o2:Option Addr} {l2 c2:Nat} (hc:dL W b off h o1 l1 c1 o2 l2 c2) (hb:b < pb) (hm:dQ X most pb W k) (hl:Later pb W W'):dL W' b off h o1 l1 c1 o2 l2 c2 :=
 hc.fr hl.fr (fun e=>e.elim (fun e=>by omega) (fun e=>by have:=hm.Z5 e;omega))
abbrev XR (pb:Nat) (W:World) (o:Option Addr) (n:Nat) (e:iP):Prop:=mP (TF (fun _=>False) pb W) W o n e
theorem Z7 {X:Nat->Prop} {most:Int} {pb:Nat} {W W':World} {k:Mk} {o:Option Addr} {n:Nat} {e:iP} (hm:dQ X most pb W k) (hq:ah W W') (h:mP (fun i=>W.heap.size<=i) W' o n e):XR pb W' o n e :=
 h.fr (Fr.refl (fun _=>False) W') (fun _ _ hi=>⟨⟨(hm.fresh hq hi).1,(hm.fresh hq hi).2.1,fun h=>h⟩,fun h=>h⟩)
def TmT (h:Nd) (ps:To):Prop:=∀ (W:World) (R X:Nat->Prop) (most:Int) (pb:Nat) (mk:Mk) (o1:Option Addr) (l1 c1:Nat) (o2:Option Addr) (l2 c2:Nat) (eo:Option Addr) (en ec:Nat) (e:iP) (E:Env),
 aB R W o1 l1 h.tp->bC R W o2 l2 ps->(∀ i,R i->i < pb)->dQ X most pb W mk->most<=4096->XR pb W eo en e->en<=ec->en+ps.size<=100000->sU most pb mk.next W e E->KU h ps.length->rH ps->Sc.bM (names e) h ps=[]->(dw most h ps E mk).2.next<=Aj ->
 Calls Tryd.prog 22 #[.pointer (some ⟨pb,0,none⟩),bP h o1 l1 c1 o2 l2 c2,.slice eo en ec] W (I8 X most pb W (dw most h ps E mk))
end Em
end
end Go.Proofs.YtcninopmelmajaaDoor
