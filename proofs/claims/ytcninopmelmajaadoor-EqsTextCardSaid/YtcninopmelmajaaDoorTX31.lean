/-
  Texts laid together (EqBindR): laws and walks, with their conditions.
-/
import Derived.Test.YtcninopmelmajaaDoorTX30
set_option maxHeartbeats 8000000
set_option maxRecDepth 1000000
namespace Go.Proofs.YtcninopmelmajaaDoor
open Go.Lib (hid)
section
open Go.RowKit
namespace Em
theorem UE (h : Nd) (ps : To) (ih : ∀ i g qs, ps.get i = some (g, qs) -> TmT g qs) (hk : h.k = 7) (W : World) (R X : Nat -> Prop) (most : Int) (pb : Nat) (mk : Mk) (o1 : Option Addr) (l1 c1 : Nat) (o2 : Option Addr) (l2 c2 : Nat) (eo : Option Addr) (en ec : Nat) (e : iP) (E : Env)
    (hs2:bC R W o2 l2 ps) (hR:∀ i,R i->i < pb) (hm:dQ X most pb W mk) (oZ:most<=4096) (hb:XR pb W eo en e) (vW:en<=ec) (hz:en+ps.size<=100000) (hE:sU most pb mk.next W e E) (hok:KU h ps.length) (kF:rH ps) (hfr:Sc.bM (names e) h ps=[]) (hN:(firstM most h (bQ most ps) E mk).2.next<=Aj) :
    Calls Tryd.prog 43 #[.pointer (some ⟨pb,0,none⟩),bP h o1 l1 c1 o2 l2 c2,.slice eo en ec] W (Ol X most pb W (firstM most h (bQ most ps) E mk) (uf most h (bQ most ps) E mk)):=by
 have hl2:2<=l2:=by rw [hs2.1];exact hok.2.2.2.2.1 hk
 obtain ⟨b9,aJ,u,qu,kS,kT,d1u,kU,kV,kW,e9,_,gu,ru,cu,su,tu⟩:=hs2.nth (i:=0) (by omega);subst e9;have gB:=hR b9 ru;obtain ⟨W0,hW0⟩:∃ W0,W0=W.alloc (.cells (cells9 h o1 l1 c1 (some ⟨b9,aJ,none⟩) l2 c2) 30):=⟨_,rfl⟩;have hq0:ah W W0:=by rw [hW0];exact ah.alloc _ _
 have h4:Bx pb W0 W.heap.size (cells9 h o1 l1 c1 (some ⟨b9,aJ,none⟩) l2 c2) 30:=Bx.new hm hq0 (Nat.le_refl _) (by rw [hW0];exact heap_alloc_new W _);have hp:=hm.lt;have hl0:=Later.aS hq0 hp;have yS:=hid hl0;have HM:=hid hm;have FY:=hid (hm.stay hq0);have H4:=hid h4;have HP:=hid hp;have HR:=hid hR;have EL:=hid hb;have HE:=hid hE;have wS:=hid oZ;have KW:=hid gu;have AV:=hid su;have AX:=hid tu;have Bj:=hid cu;have Ry:=hid gB;have XV:=hid (To.dG ps 0 u qu gu);have Om:=hid (fO ps 0 u qu kF gu);have IH:=hid ih;have HZ:=hid hz;have HEC:=hid vW;have hi0:(0:Int) < l2:=by omega
 have hj0:0 < l2:=by omega
 have t7:(h.k == 7)=true:=by rw [hk];rfl
 have XW:Hid (Sc.bM (h.nm::names e) u qu=[]):=by
  show _=_
  have k:=oC hfr (by rw [hk];decide) gu
  rwa [rP _ _ (by rw [hk];rfl)] at k
 obtain ⟨rt,hrt⟩:∃ rt,dw most u qu ((h.nm,pu (tv mk.next))::E) { mk with next:=mk.next+1 }=rt:=⟨_,rfl⟩;obtain ⟨res,hres⟩:∃ res,((tv mk.next,(dh most (tv mk.next) rt.1 h.fr h.en rt.2).2):Ty × Mk)=res:=⟨_,rfl⟩;have hf:firstM most h (bQ most ps) E mk=res:=by rw [<-hres,<-hrt];unfold firstM;rw [if_neg (by omega),yw gu];rfl
 have uh:Hid (res.2.next<=Aj):=by show _<=_;rw [<-hf];exact hN
 have Z9:Hid (uf most h (bQ most ps) E mk=copied most (res.2.eqs.drop mk.eqs.length) res.1 mk.next res.2.next):=by show _=_;unfold uf;rw [hf]
 have Uz:Hid (mk.next<=res.2.next/\mk.eqs.length<=res.2.eqs.length):=by
  have k:=(lQ most u qu ((h.nm,pu (tv mk.next))::E) (hE.ne.cons (NM.pure _))).bind (fun t=>(NM.eqn most (tv mk.next) t h.fr h.en)) { mk with next:=mk.next+1 }
  show mk.next<=_/\_
  rw [<-hres];unfold bd at k;rw [hrt] at k;exact ⟨Nat.le_trans (Nat.le_succ _) k.1,k.2⟩
 have lT:=hid hres;have yN:=hid hrt;have abu:Hid (rt.2.next<=Aj):=by
  have k:=uh.out;rw [<-hres] at k
  show _<=_
  simpa only [rQ] using k
 rw [hf];rw [Z9.out];obtain ⟨o0,k0,xs0,lg⟩:=FY.out;obtain ⟨q0,q1,q2,q3⟩:=bT lg.box;have hsl:∀ j,j=mk.eqs.length->(0:Int)<=(j:Int):=fun j _=>by omega
 have hfew:=lg.few;clear hsl lg;obtain ⟨a0,a1,a2,a3,a4,a5,a6,a7,a8⟩:=aA H4.out.1;clear hk hs2 hR hm hb hE hok kF hfr hN hl0 hq0 h4 hp hf oZ gu su tu cu gB ru ih hz vW hrt;obtain ⟨start,hstart⟩:∃ start,mk.eqs.length=start:=⟨_,rfl⟩;have HST:=hid hstart;rw [hstart] at q0 hfew;clear hstart;unfold bP;go_enter Tryd.func43,Tryd.ntmps43;generalize dV:W.heap.size=B at *;go_upto_region 1 with fail
 rw [<-hW0];clear hW0;go_quiet (fail);have yT:=ah.drewN W0 nq;obtain ⟨W1,hW1⟩:∃ W1,W1=(W0.drewN nq).alloc (.cells #[.int .i64 0,.int .i64 0,.slice none 0 0] 25):=⟨_,rfl⟩;have hq1:ah W0 W1:=by rw [hW1];exact yT.trans (ah.alloc _ _)
 have h9:Bx pb W1 W0.heap.size #[.int .i64 0,.int .i64 0,.slice none 0 0] 25:=Bx.new FY.out hq1 (Nat.le_refl _) (by rw [hW1];exact heap_alloc_new (W0.drewN nq) _);have hz1:W0.heap.size < W1.heap.size:=by rw [hW1];simp [World.drewN]
 have hm1:=FY.out.more hq1 (fun i=>i=W0.heap.size) (fun i hi=>by subst hi;exact ⟨Nat.le_refl _,hz1⟩);obtain ⟨X1,hX1⟩:∃ X1,X1=(fun i=>X i∨i=W0.heap.size):=⟨_,rfl⟩;have jR:Hid (∀ i,X1 i=(X i∨i=W0.heap.size)):=fun i=>by rw [hX1]
 rw [<-hX1] at hm1;have Wx:=hid hm1;have Oh:Hid (pb < W.heap.size):=by show pb < _;rw [dV];exact HP.out
 have O1:=hid (yS.out.quiet hq1 Oh.out);have H9:=hid h9;have H41:=hid (H4.out.later (Later.aS hq1 FY.out.lt));have HB1:Hid (B < W0.heap.size):=lt_of_block H4.out.1;have HB0:Hid (B<=W0.heap.size):=by show B<=_;rw [<-dV];exact (yS.out).size
 clear hq1 hm1 h9 yT hX1 hz1 q0 q1 q2 q3 a0 a1 a2 a3 a4 a5 a6 a7 a8;go_upto_region 3 with fail
 change Code.wp _ _ _ _ ((W0.drewN nq).alloc (.cells #[.int .i64 0,.int .i64 0,.slice none 0 0] 25));rw [<-hW1];clear hW1;have hD0:(W0.drewN nq).heap.size=W0.heap.size:=rfl
 try rw [hD0]
 clear hD0;generalize hD:W0.heap.size=D at *;clear yS FY H4 hD;obtain ⟨a0,a1,a2,a3,a4,a5,a6,a7,a8⟩:=aA H41.out.1;have aac:(ES W1 b9 aJ u kS kT d1u kU kV kW):=eu Bj.out Ry.out HM.out O1.out;obtain ⟨v0,v1,v2,v3,v4,v5,v6,v7,v8⟩:=aac;obtain ⟨d0,d1,d2,y0,y1,y2⟩:=ay H9.out.1;have hbn:mk.next+1<=500000000:=by
  have k:=(lQ most u qu ((h.nm,pu (tv mk.next))::E) (HE.out.ne.cons (NM.pure _)) { mk with next:=mk.next+1 }).1;rw [yN.out] at k;exact Nat.le_trans k abu.out
 have P8:=hid (take_any Wx.out (by omega));go_wp2_with fail;refine P8.out.mono ?_;rintro x w3 ⟨nv,ov,cv,hnv,rfl,nZ,hl3⟩;obtain rfl:mk.next=nv:=Il hnv
 replace nZ:dQ X1 most pb w3 { mk with next:=mk.next+1 }:=nZ;have h93:=H9.out.later hl3;have UA:=O1.out.trans hl3;obtain ⟨d0',d1',d2',y0',y1',y2'⟩:=ay h93.1;clear a0 a1 a2 a3 a4 a5 a6 a7 a8 v0 v1 v2 v3 v4 v5 v6 v7 v8 d0 d1 d2 y0 y1 y2;have Bh:=hid nZ;have rF:=hid UA;have H93:=hid h93;have H43:=hid (H41.out.later hl3);clear nZ hl3 h93 UA hnv P8;unfold fG;go_upto_region 5 with fail
 clear d0' d1' d2' y0' y1' y2';obtain ⟨W4,yP⟩:∃ W4,W4=bf w3 D (.int .i64 1) (.int .i64 mk.next) (.slice ov 0 cv):=⟨_,rfl⟩;change Code.wp _ _ _ _ (bf w3 D (.int .i64 1) (.int .i64 mk.next) (.slice ov 0 cv));have hf4:=aZ w3 D (.int .i64 1) (.int .i64 mk.next) (.slice ov 0 cv);have hb4:(bf w3 D (.int .i64 1) (.int .i64 mk.next) (.slice ov 0 cv)).heap[D]?=_:=ji (u:=.slice ov 0 cv) (iW (u:=.int .i64 mk.next) (jk (u:=.int .i64 1) H93.out.1));rw [<-yP] at hf4 hb4 ⊢;clear yP;have KY:=hid (Bh.out.put (hf4.mono (fun i _ e=>by rw [jR.out];exact Or.inr e)));have Ag:=hid (rF.out.put hf4 Oh.out (fun i hi=>by have:=HB0.out;omega));have HD4:Hid (Bx pb W4 D #[.int .i64 1,.int .i64 mk.next,.slice ov 0 cv] 25):=⟨hb4,KY.out.far (by rw [jR.out];exact Or.inr rfl)⟩;have HT4:Hid (Bx pb W4 B (cells9 h o1 l1 c1 (some ⟨b9,aJ,none⟩) l2 c2) 30):=by
  have hne:¬ B=D:=by have:=HB1.out;omega
  have hb:=aC hf4 (fun e=>hne e) H43.out.1;exact ⟨hb,fun e=>H43.out.2 (e.imp id (fun e=>by unfold Rw at e ⊢;rwa [hf4.aY Bh.out.lt (fun e=>by have k:=KY.out.far (i:=D) (by rw [jR.out];exact Or.inr rfl);exact k (Or.inl e.symm))] at e))⟩
 have bK:Hid (∀ W,Later pb W4 W->(qV W B h o1 l1 c1 (some ⟨b9,aJ,none⟩) l2 c2)/\(yB W D (.int .i64 1) (.int .i64 mk.next) (.slice ov 0 cv))/\(ES W b9 aJ u kS kT d1u kU kV kW)):=fun W' hl=>by
  obtain ⟨k0,k1,k2,_⟩:=ay (HD4.out.later hl).1;exact ⟨aA (HT4.out.later hl).1,⟨k0,k1,k2⟩,eu Bj.out Ry.out HM.out (Ag.out.trans hl)⟩
 have hpb:=KY.out.lt;have WE:Hid (∀ W X2,dQ X2 most pb W { mk with next:=mk.next+1 }->Calls Tryd.prog 42 #[.agg #[.int .i64 1,.int .i64 mk.next,.slice ov 0 cv]] W (SgQ most pb (mk.next+1) W (pu (tv mk.next)))):=fun W X2 hm=>Dv hm
 have XY:Hid (∀ W X2 bs ls,Later pb W4 W->dQ X2 most pb W { mk with next:=mk.next+1 }->jO most pb (mk.next+1) W (.func bs #[] ls) (pu (tv mk.next))->Calls Tryd.prog 41 #[.slice eo en ec,.string h.nm,.func bs #[] ls] W (WtQ most pb (mk.next+1) W (en+1) ((h.nm,.func bs #[] ls)::e) ((h.nm,pu (tv mk.next))::E))):=fun W X2 bs ls hl hm hf=>by
  have hl':=Ag.out.trans hl;exact uU h.nm hm (EL.out.later hl') (HE.out.later hl' (by omega)) HEC.out (by have:=HZ.out;omega) hf (NM.pure _)
 have nT:Hid (∀ W X2 o c bs ls,Later pb W4 W->dQ X2 most pb W { mk with next:=mk.next+1 }->en+1<=c->IU most pb (mk.next+1) W o (en+1) ((h.nm,.func bs #[] ls)::e) ((h.nm,pu (tv mk.next))::E)->Calls Tryd.prog 22 #[.pointer (some ⟨pb,0,none⟩),bP u kS kT d1u kU kV kW,.slice o (en+1) c] W (I8 X2 most pb W rt)):=fun W X2 o c bs ls hl hm hc hpk=>by
  have hl':=Ag.out.trans hl;have k:=IH.out 0 u qu KW.out W R X2 most pb { mk with next:=mk.next+1 } kS kT d1u kU kV kW o (en+1) c _ _ (jD AV.out HR.out HM.out hl') (eY AX.out HR.out HM.out hl') HR.out hm wS.out hpk.1 hc (by have:=XV.out;have:=HZ.out;omega) hpk.2 Om.out.1 Om.out.2 XW.out (by rw [yN.out];exact abu.out);rw [yN.out] at k;exact k
 unfold bP at nT;obtain ⟨⟨a0,a1,a2,a3,a4,a5,a6,a7,a8⟩,⟨g0,g1,g2⟩,⟨v0,v1,v2,v3,v4,v5,v6,v7,v8⟩⟩:=bK.out W4 (Later.refl hpb);clear hf4 hb4;go_cut [10] (fun v wx=>ada X1 most pb W4 rt v wx)
 case first =>
  refine wp_region_held_drew (S:=(fun (W:World)=>(qV W B h o1 l1 c1 (some ⟨b9,aJ,none⟩) l2 c2)/\(yB W D (.int .i64 1) (.int .i64 mk.next) (.slice ov 0 cv))/\(ES W b9 aJ u kS kT d1u kU kV kW))) (by kernel_rfl) ?JZ (fun hHeld=>?_)
  case JZ=>exact bK.out _ (Later.aS (ah.drew W4) hpb)
  have hmd:=KY.out.stay (ah.drew W4);have hld:=(Later.refl hpb).quiet (ah.drew W4) hpb;generalize W4.drew=wd at *;refine Hd.tk 0 rfl ?_;go_frame;refine Hd.tk 1 rfl ?_;go_frame;refine Hd.tk 2 rfl ?_;go_frame;refine Hd.tk 3 rfl ?_;go_frame;refine Hd.tk 4 rfl ?_;go_frame;refine Hd.tk 5 rfl ?_;go_frame;refine Hd.tk 6 rfl ?_;go_frame;refine Hd.tk 7 rfl ?_;go_frame;refine Hd.tk 8 rfl ?_;go_frame;refine wpAnyH_ready (rs:=[9,12]) (by kernel_rfl) (by simp) ?_;refine Hd.cn 9 rfl (fun K hK=>?_) ?_
  ·go_simp;go_at_call 42
   (with_reducible refine Calls.mono (WE.out _ _ hmd) ?_)
   rintro x Y0 ⟨bs,ls,rfl,hme,fJ⟩;have Io:=hmd.stay fJ;have Ip:=hld.quiet fJ hpb;refine hK.out _ _ ?UF (fun hHeld=>?_)
   case UF=>exact bK.out _ Ip
   clear hK K
   (try go_frame)
   refine wpAnyH_ready (rs:=[10,12]) (by kernel_rfl) (by simp) ?_;refine Hd.cn 10 rfl (fun K hK=>?_) ?_
   ·go_simp;go_at_call 41
    (with_reducible refine Calls.mono (XY.out _ _ bs ls Ip Io hme) ?_)
    rintro x XZ ⟨wo,wc,rfl,hwc,hpk,fJ⟩;have J3:=Io.stay fJ;have zD:=Ip.quiet fJ hpb;refine hK.out _ _ ?UG (fun hHeld=>?_)
    case UG=>exact bK.out _ zD
    clear hK K
    (try go_frame)
    refine wpAnyH_ready (rs:=[11,12]) (by kernel_rfl) (by simp) ?_;refine Hd.cn 11 rfl (fun K hK=>?_) ?_
    ·go_simp;go_at_call 22
     (with_reducible refine Calls.mono (nT.out _ _ wo wc bs ls zD J3 hwc hpk) ?_)
     rintro x Ew ⟨n9,o9,c9,qF,rfl,J4,hlq⟩;unfold fG;have AY:=zD.trans hlq;refine hK.out _ _ ?UH (fun hHeld=>?_)
     case UH=>exact bK.out _ AY
     clear hK K
     (try go_frame)
     refine wpAnyH_ready (rs:=[12]) (by kernel_rfl) (by simp) ?_;refine Hd.cn 12 rfl (fun K hK=>?_) ?_
     ·go_simp;obtain ⟨wa,kG⟩:∃ wa,wa=Ew.alloc (.cells #[.int .i64 0,.int .i64 0,.slice none 0 0] 25):=⟨_,rfl⟩;have hqa:ah Ew wa:=by rw [kG];exact ah.alloc _ _
      have Am:Bx pb wa Ew.heap.size #[.int .i64 0,.int .i64 0,.slice none 0 0] 25:=Bx.new J4 hqa (Nat.le_refl _) (by rw [kG];exact heap_alloc_new Ew _);have hma:=J4.more hqa (fun i=>i=Ew.heap.size) (fun i hi=>by subst hi;exact ⟨Nat.le_refl _,by rw [kG];simp⟩);have hla:=AY.quiet hqa hpb;have hgF:W4.heap.size<=Ew.heap.size:=(AY).size;rw [<-kG];clear kG;generalize Ew.heap.size=F at *;refine hK.out _ _ ?UK (fun hHeld=>?_)
      case UK=>exact bK.out _ hla
      clear hK K
      (try go_frame)
      refine wpAnyH_ready (rs:=[13]) (by kernel_rfl) (by simp) ?_;refine Hd.cn 13 rfl (fun K hK=>?_) ?_
      ·obtain ⟨z0,z1,z2,y0,y1,y2⟩:=ay Am.1;go_simp;have UL:=aZ wa F (.int .i64 1) (.int .i64 n9) (.slice o9 0 c9);have hbG:(bf wa F (.int .i64 1) (.int .i64 n9) (.slice o9 0 c9)).heap[F]?=_:=ji (u:=.slice o9 0 c9) (iW (u:=.int .i64 n9) (jk (u:=.int .i64 1) Am.1));change K _ (bf wa F (.int .i64 1) (.int .i64 n9) (.slice o9 0 c9));generalize bf wa F (.int .i64 1) (.int .i64 n9) (.slice o9 0 c9)=wf at *;have hmf:=hma.put (UL.mono (fun i _ e=>Or.inr e));have hlf:=hla.put UL hpb (fun i hi=>by omega);refine hK.out _ _ ?UM (fun hHeld=>?_)
       case UM=>exact bK.out _ hlf
       clear hK K
       (try go_frame)
       refine wpAnyH_done (by kernel_rfl) ?_ _;go_wp2_with fail;go_meet;exact ⟨F,n9,o9,c9,rfl,qF,⟨hbG,hmf.far (Or.inr rfl)⟩,hmf.less (fun i hi=>Or.inl hi),hlf⟩
      exact AllReadyH.nil
     exact AllReadyH.nil
    refine Hd.cn 12 rfl (fun K hK=>?_) ?_
    ·go_simp;obtain ⟨wa,kG⟩:∃ wa,wa=XZ.alloc (.cells #[.int .i64 0,.int .i64 0,.slice none 0 0] 25):=⟨_,rfl⟩;have hqa:ah XZ wa:=by rw [kG];exact ah.alloc _ _
     have Am:Bx pb wa XZ.heap.size #[.int .i64 0,.int .i64 0,.slice none 0 0] 25:=Bx.new J3 hqa (Nat.le_refl _) (by rw [kG];exact heap_alloc_new XZ _);have hma:=J3.more hqa (fun i=>i=XZ.heap.size) (fun i hi=>by subst hi;exact ⟨Nat.le_refl _,by rw [kG];simp⟩);have hla:=zD.quiet hqa hpb;have hgF:W4.heap.size<=XZ.heap.size:=(zD).size;rw [<-kG];clear kG;generalize XZ.heap.size=F at *;refine hK.out _ _ ?UN (fun hHeld=>?_)
     case UN=>exact bK.out _ hla
     clear hK K
     (try go_frame)
     have hpk:=IU.st J3 hqa hpk;refine wpAnyH_ready (rs:=[11]) (by kernel_rfl) (by simp) ?_;refine Hd.cn 11 rfl (fun K hK=>?_) ?_
     ·go_simp;go_at_call 22
      (with_reducible refine Calls.mono (nT.out _ _ wo wc bs ls hla hma hwc hpk) ?_)
      rintro x Ew ⟨n9,o9,c9,qF,rfl,J4,hlq⟩;unfold fG;have Am:=Am.later hlq;have AY:=hla.trans hlq;refine hK.out _ _ ?UO (fun hHeld=>?_)
      case UO=>exact bK.out _ AY
      clear hK K
      (try go_frame)
      refine wpAnyH_ready (rs:=[13]) (by kernel_rfl) (by simp) ?_;refine Hd.cn 13 rfl (fun K hK=>?_) ?_
      ·obtain ⟨z0,z1,z2,y0,y1,y2⟩:=ay Am.1;go_simp;have UL:=aZ Ew F (.int .i64 1) (.int .i64 n9) (.slice o9 0 c9);have hbG:(bf Ew F (.int .i64 1) (.int .i64 n9) (.slice o9 0 c9)).heap[F]?=_:=ji (u:=.slice o9 0 c9) (iW (u:=.int .i64 n9) (jk (u:=.int .i64 1) Am.1));change K _ (bf Ew F (.int .i64 1) (.int .i64 n9) (.slice o9 0 c9));generalize bf Ew F (.int .i64 1) (.int .i64 n9) (.slice o9 0 c9)=wf at *;have hmf:=J4.put (UL.mono (fun i _ e=>Or.inr e));have hlf:=AY.put UL hpb (fun i hi=>by omega);refine hK.out _ _ ?UQ (fun hHeld=>?_)
       case UQ=>exact bK.out _ hlf
       clear hK K
       (try go_frame)
       refine wpAnyH_done (by kernel_rfl) ?_ _;go_wp2_with fail;go_meet;exact ⟨F,n9,o9,c9,rfl,qF,⟨hbG,hmf.far (Or.inr rfl)⟩,hmf.less (fun i hi=>Or.inl hi),hlf⟩
      exact AllReadyH.nil
     exact AllReadyH.nil
    exact AllReadyH.nil
   refine Hd.cn 12 rfl (fun K hK=>?_) ?_
   ·go_simp;obtain ⟨wa,kG⟩:∃ wa,wa=Y0.alloc (.cells #[.int .i64 0,.int .i64 0,.slice none 0 0] 25):=⟨_,rfl⟩;have hqa:ah Y0 wa:=by rw [kG];exact ah.alloc _ _
    have Am:Bx pb wa Y0.heap.size #[.int .i64 0,.int .i64 0,.slice none 0 0] 25:=Bx.new Io hqa (Nat.le_refl _) (by rw [kG];exact heap_alloc_new Y0 _);have hma:=Io.more hqa (fun i=>i=Y0.heap.size) (fun i hi=>by subst hi;exact ⟨Nat.le_refl _,by rw [kG];simp⟩);have hla:=Ip.quiet hqa hpb;have hgF:W4.heap.size<=Y0.heap.size:=(Ip).size;rw [<-kG];clear kG;generalize Y0.heap.size=F at *;refine hK.out _ _ ?UR (fun hHeld=>?_)
    case UR=>exact bK.out _ hla
    clear hK K
    (try go_frame)
    have hme:=jO.st Io hqa hme;refine wpAnyH_ready (rs:=[10]) (by kernel_rfl) (by simp) ?_;refine Hd.cn 10 rfl (fun K hK=>?_) ?_
    ·go_simp;go_at_call 41
     (with_reducible refine Calls.mono (XY.out _ _ bs ls hla hma hme) ?_)
     rintro x XZ ⟨wo,wc,rfl,hwc,hpk,fJ⟩;have J3:=hma.stay fJ;have zD:=hla.quiet fJ hpb;have Am:=Am.later (Later.aS fJ hma.lt);refine hK.out _ _ ?UU (fun hHeld=>?_)
     case UU=>exact bK.out _ zD
     clear hK K
     (try go_frame)
     refine wpAnyH_ready (rs:=[11]) (by kernel_rfl) (by simp) ?_;refine Hd.cn 11 rfl (fun K hK=>?_) ?_
     ·go_simp;go_at_call 22
      (with_reducible refine Calls.mono (nT.out _ _ wo wc bs ls zD J3 hwc hpk) ?_)
      rintro x Ew ⟨n9,o9,c9,qF,rfl,J4,hlq⟩;unfold fG;have Am:=Am.later hlq;have AY:=zD.trans hlq;refine hK.out _ _ ?UW (fun hHeld=>?_)
      case UW=>exact bK.out _ AY
      clear hK K
      (try go_frame)
      refine wpAnyH_ready (rs:=[13]) (by kernel_rfl) (by simp) ?_;refine Hd.cn 13 rfl (fun K hK=>?_) ?_
      ·obtain ⟨z0,z1,z2,y0,y1,y2⟩:=ay Am.1;go_simp;have UL:=aZ Ew F (.int .i64 1) (.int .i64 n9) (.slice o9 0 c9);have hbG:(bf Ew F (.int .i64 1) (.int .i64 n9) (.slice o9 0 c9)).heap[F]?=_:=ji (u:=.slice o9 0 c9) (iW (u:=.int .i64 n9) (jk (u:=.int .i64 1) Am.1));change K _ (bf Ew F (.int .i64 1) (.int .i64 n9) (.slice o9 0 c9));generalize bf Ew F (.int .i64 1) (.int .i64 n9) (.slice o9 0 c9)=wf at *;have hmf:=J4.put (UL.mono (fun i _ e=>Or.inr e));have hlf:=AY.put UL hpb (fun i hi=>by omega);refine hK.out _ _ ?UY (fun hHeld=>?_)
       case UY=>exact bK.out _ hlf
       clear hK K
       (try go_frame)
       refine wpAnyH_done (by kernel_rfl) ?_ _;go_wp2_with fail;go_meet;exact ⟨F,n9,o9,c9,rfl,qF,⟨hbG,hmf.far (Or.inr rfl)⟩,hmf.less (fun i hi=>Or.inl hi),hlf⟩
      exact AllReadyH.nil
     exact AllReadyH.nil
    exact AllReadyH.nil
   exact AllReadyH.nil
  refine Hd.cn 12 rfl (fun K hK=>?_) ?_
  ·go_simp;obtain ⟨wa,kG⟩:∃ wa,wa=wd.alloc (.cells #[.int .i64 0,.int .i64 0,.slice none 0 0] 25):=⟨_,rfl⟩;have hqa:ah wd wa:=by rw [kG];exact ah.alloc _ _
   have Am:Bx pb wa wd.heap.size #[.int .i64 0,.int .i64 0,.slice none 0 0] 25:=Bx.new hmd hqa (Nat.le_refl _) (by rw [kG];exact heap_alloc_new wd _);have hma:=hmd.more hqa (fun i=>i=wd.heap.size) (fun i hi=>by subst hi;exact ⟨Nat.le_refl _,by rw [kG];simp⟩);have hla:=hld.quiet hqa hpb;have hgF:W4.heap.size<=wd.heap.size:=(hld).size;rw [<-kG];clear kG;generalize wd.heap.size=F at *;refine hK.out _ _ ?UZ (fun hHeld=>?_)
   case UZ=>exact bK.out _ hla
   clear hK K
   (try go_frame)
   refine wpAnyH_ready (rs:=[9]) (by kernel_rfl) (by simp) ?_;refine Hd.cn 9 rfl (fun K hK=>?_) ?_
   ·go_simp;go_at_call 42
    (with_reducible refine Calls.mono (WE.out _ _ hma) ?_)
    rintro x Y0 ⟨bs,ls,rfl,hme,fJ⟩;have Io:=hma.stay fJ;have Ip:=hla.quiet fJ hpb;have Am:=Am.later (Later.aS fJ hma.lt);refine hK.out _ _ ?U0 (fun hHeld=>?_)
    case U0=>exact bK.out _ Ip
    clear hK K
    (try go_frame)
    refine wpAnyH_ready (rs:=[10]) (by kernel_rfl) (by simp) ?_;refine Hd.cn 10 rfl (fun K hK=>?_) ?_
    ·go_simp;go_at_call 41
     (with_reducible refine Calls.mono (XY.out _ _ bs ls Ip Io hme) ?_)
     rintro x XZ ⟨wo,wc,rfl,hwc,hpk,fJ⟩;have J3:=Io.stay fJ;have zD:=Ip.quiet fJ hpb;have Am:=Am.later (Later.aS fJ Io.lt);refine hK.out _ _ ?U1 (fun hHeld=>?_)
     case U1=>exact bK.out _ zD
     clear hK K
     (try go_frame)
     refine wpAnyH_ready (rs:=[11]) (by kernel_rfl) (by simp) ?_;refine Hd.cn 11 rfl (fun K hK=>?_) ?_
     ·go_simp;go_at_call 22
      (with_reducible refine Calls.mono (nT.out _ _ wo wc bs ls zD J3 hwc hpk) ?_)
      rintro x Ew ⟨n9,o9,c9,qF,rfl,J4,hlq⟩;unfold fG;have Am:=Am.later hlq;have AY:=zD.trans hlq;refine hK.out _ _ ?abv (fun hHeld=>?_)
      case abv=>exact bK.out _ AY
      clear hK K
      (try go_frame)
      refine wpAnyH_ready (rs:=[13]) (by kernel_rfl) (by simp) ?_;refine Hd.cn 13 rfl (fun K hK=>?_) ?_
      ·obtain ⟨z0,z1,z2,y0,y1,y2⟩:=ay Am.1;go_simp;have UL:=aZ Ew F (.int .i64 1) (.int .i64 n9) (.slice o9 0 c9);have hbG:(bf Ew F (.int .i64 1) (.int .i64 n9) (.slice o9 0 c9)).heap[F]?=_:=ji (u:=.slice o9 0 c9) (iW (u:=.int .i64 n9) (jk (u:=.int .i64 1) Am.1));change K _ (bf Ew F (.int .i64 1) (.int .i64 n9) (.slice o9 0 c9));generalize bf Ew F (.int .i64 1) (.int .i64 n9) (.slice o9 0 c9)=wf at *;have hmf:=J4.put (UL.mono (fun i _ e=>Or.inr e));have hlf:=AY.put UL hpb (fun i hi=>by omega);refine hK.out _ _ ?U2 (fun hHeld=>?_)
       case U2=>exact bK.out _ hlf
       clear hK K
       (try go_frame)
       refine wpAnyH_done (by kernel_rfl) ?_ _;go_wp2_with fail;go_meet;exact ⟨F,n9,o9,c9,rfl,qF,⟨hbG,hmf.far (Or.inr rfl)⟩,hmf.less (fun i hi=>Or.inl hi),hlf⟩
      exact AllReadyH.nil
     exact AllReadyH.nil
    exact AllReadyH.nil
   exact AllReadyH.nil
  exact AllReadyH.nil
 case rest =>
  rename World=>w5
  obtain ⟨F,n9,o9,c9,rfl,qF,Am,Eu,hl5⟩:=hcut;have adf:=hid Eu;have abw:=hid hl5;clear a0 a1 a2 a3 a4 a5 a6 a7 a8 g0 g1 g2 v0 v1 v2 v3 v4 v5 v6 v7 v8;obtain ⟨⟨a0,a1,a2,a3,a4,a5,a6,a7,a8⟩,⟨g0,g1,g2⟩,_⟩:=bK.out w5 hl5;obtain ⟨z0,z1,z2,_,_,_⟩:=ay Am.1;have xE:Hid (Calls Tryd.prog 39 #[.pointer (some ⟨pb,0,none⟩),.agg #[.int .i64 1,.int .i64 mk.next,.slice ov 0 cv],.agg #[.int .i64 1,.int .i64 n9,.slice o9 0 c9],.agg #[.int .i64 h.fr,.int .i64 h.en]] w5 (I9 X1 most pb w5 res.2)):=by
   have k:=dM (o1:=ov) (l1:=0) (c1:=cv) (o2:=o9) (l2:=0) (c2:=c9) adf.out wS.out (tv mk.next) (tv n9) h.fr h.en (aB.nil _ _ _) (aB.nil _ _ _) (Nat.le_of_ble_eq_true rfl) (Nat.le_of_ble_eq_true rfl);rw [show (dh most (tv mk.next) (tv n9) h.fr h.en rt.2).2=res.2 from by rw [<-lT.out,qF]] at k;exact k
  clear Eu hl5 Am;go_wp2_with fail;refine xE.out.mono ?_;rintro x W5 ⟨rfl,Eu,hl5⟩;have KX:=hid Eu;have WO:=hid (Ag.out.trans (abw.out.trans hl5));obtain ⟨f0,f1,f2,_⟩:=ay (HD4.out.later (abw.out.trans hl5)).1;clear Eu hl5 a0 a1 a2 a3 a4 a5 a6 a7 a8 g0 g1 g2 z0 z1 z2;have HNV:Hid (res.1=tv mk.next):=by show _=_;rw [<-lT.out]
  obtain ⟨o5,c5,xs5,hmk5⟩:=KX.out;obtain ⟨q0,q1,q2,q3⟩:=bT hmk5.box;obtain ⟨ln,hln⟩:∃ ln,res.2.eqs.length=ln:=⟨_,rfl⟩;have hle:start<=ln:=by have:=Uz.out.2;rw [HST.out,hln] at this;exact this
  have hform:=hmk5.form;have hlz:ln<=4096:=by have:=hmk5.few;omega
  have UC:=hmk5.small;rw [hln] at q0 hform;have qX:=hid hln;have hs0:(0:Int)<=start:=by omega
  have hs1:(start:Int)<=ln:=by omega
  have hs2:(ln:Int)<=ln:=Int.le_refl _;have hs3:IntKind.i64.wrap ((ln:Int)-start)=((ln-start:Nat):Int):=by rw [IntWalk.i64_in _ (by omega)];omega
  have hkd:(res.2.eqs.drop start).length=ln-start/\∀ t∈res.2.eqs.drop start,t.1.2.2.size<=100000/\t.2.1.2.2.size<=100000:=by
   exact ⟨by rw [List.length_drop,qX.out],fun t ht=>UC t (List.mem_of_mem_drop ht)⟩
  have aad:=hid hmk5;have UD:Hid (ln=start->∀ ko,KeptAt pb W5 ko (res.2.eqs.drop start)):=fun he ko=>.inl (List.eq_nil_of_length_eq_zero (by rw [List.length_drop,qX.out];omega))
  have QC:Hid (∀ ko,KeptAt pb W5 ko (res.2.eqs.drop start)->Calls Tryd.prog 62 #[.slice ko (ln-start) (ln-start),.agg #[.int .i64 1,.int .i64 mk.next,.slice ov 0 cv],.int .i64 mk.next,.int .i64 res.2.next] W5.drew fun x w'=>∃ bs ls,x=.returned (.func bs #[] ls)/\jO most pb res.2.next w' (.func bs #[] ls) (copied most (res.2.eqs.drop start) (tv mk.next) mk.next res.2.next)/\ah W5.drew w'):=fun ko hk=>by
   have hl:=Later.aS (ah.drew W5) KX.out.lt;have k:=Dw (lo:=res.2.next) (KX.out.stay (ah.drew W5)) wS.out mk.next mk.next res.2.next (res.2.eqs.drop start) ko (ln-start) ov cv (hk.later hl) (by rw [hkd.1];omega) hkd.2 Uz.out.1 (Nat.le_refl _)
   rw [hkd.1] at k;exact k
  unfold fG at QC;have HRV:Hid (res.1=tv mk.next):=HNV.out;clear hmk5 hln hkd UC;go_upto_region 8 with fail
  rcases hform with ⟨h1,h2,h3⟩ | ⟨g,h1,_,_,h4⟩
  ·subst h1;subst h2;subst h3;obtain rfl:start=0:=by omega
   have QD:=hid (QC.out none (UD.out rfl none));refine wp_region_still_tail 22 (by kernel_rfl) (by kernel_rfl) ?_;simp only [List.take_succ_cons,List.take_zero,List.drop_succ_cons,List.drop_zero];change wpStill _ _ (World.drew W5) _ _ _
   repeat still_step
   refine wpStill_nil ?_;change wpList _ _ _ _ _ (World.drew W5);go_wp2_with fail;refine QD.out.mono ?_;rintro x w6 ⟨bs,ls,rfl,hme,hq6⟩;go_wp2_with fail;go_ret;have hq5:=(ah.drew W5).trans hq6;exact ⟨bs,ls,rfl,by rw [HST.out,HRV.out];exact hme,(KX.out.stay hq5).less (fun i hi=>by rw [jR.out];exact Or.inl hi),WO.out.quiet hq5 Oh.out⟩
  ·subst h1;have hs4:(ln:Int)<=c5:=by omega
   by_cases hls:ln=start
   ·subst hls;have QD:=hid (QC.out (some ⟨g,0,none⟩) (UD.out rfl _));simp only [Nat.sub_self] at QD hs3;refine wp_region_still_tail 22 (by kernel_rfl) (by kernel_rfl) ?_;simp only [List.take_succ_cons,List.take_zero,List.drop_succ_cons,List.drop_zero];change wpStill _ _ (World.drew W5) _ _ _
    repeat still_step
    refine wpStill_nil ?_;change wpList _ _ _ _ _ (World.drew W5);go_wp2_with fail;refine QD.out.mono ?_;rintro x w6 ⟨bs,ls,rfl,hme,hq6⟩;go_wp2_with fail;go_ret;have hq5:=(ah.drew W5).trans hq6;exact ⟨bs,ls,rfl,by rw [HST.out,HRV.out];exact hme,(KX.out.stay hq5).less (fun i hi=>by rw [jR.out];exact Or.inl hi),WO.out.quiet hq5 Oh.out⟩
   ·have hne1:¬ (ln-start=0):=by omega
    have hne2:¬ (ln<=start):=by omega
    have Xq:start < ln:=by omega
    have ade:0 < ln-start:=by omega
    have QD:=hid (QC.out (some ⟨g,start*8,none⟩) (Oj aad.out start));refine wp_region_still_tail 22 (by kernel_rfl) (by kernel_rfl) ?_;simp only [List.take_succ_cons,List.take_zero,List.drop_succ_cons,List.drop_zero];change wpStill _ _ (World.drew W5) _ _ _
    repeat still_step
    refine wpStill_nil ?_;change wpList _ _ _ _ _ (World.drew W5);go_wp2_with fail;refine QD.out.mono ?_;rintro x w6 ⟨bs,ls,rfl,hme,hq6⟩;go_wp2_with fail;go_ret;have hq5:=(ah.drew W5).trans hq6;exact ⟨bs,ls,rfl,by rw [HST.out,HRV.out];exact hme,(KX.out.stay hq5).less (fun i hi=>by rw [jR.out];exact Or.inl hi),WO.out.quiet hq5 Oh.out⟩
end Em
end
end Go.Proofs.YtcninopmelmajaaDoor
