/-
  Texts laid together (EqBindR): laws and walks, with their conditions.
-/
import Derived.Test.YtcninopmelmajaaGreatDoorOF33
set_option maxHeartbeats 8000000
set_option maxRecDepth 1000000
namespace Go.Proofs.YtcninopmelmajaaGreatDoor
open Go.Lib (hid)
section
open Go.RowKit
namespace Em
theorem Um (h : Nd) (ps : To) (ih : ∀ i g qs, ps.get i = some (g, qs) -> TmT g qs) (hk : h.k = 7) (W : World) (R X : Nat -> Prop) (most : Int) (pb : Nat) (mk : Mk) (o1 : Option Addr) (l1 c1 : Nat) (o2 : Option Addr) (l2 c2 : Nat) (eo : Option Addr) (en ec : Nat) (e : iZ) (E : Env)
    (hs2:bD R W o2 l2 ps) (hR:∀ i,R i->i < pb) (hm:dV X most pb W mk) (pK:most<=4096) (hb:XC pb W eo en e) (vX:en<=ec) (hz:en+ps.size<=100000) (hE:sK most pb mk.next W e E) (hok:Ri h ps.length) (mZ:vF ps) (hfr:Sc.bP (names e) h ps=[]) (hN:(firstM most h (bT most ps) E mk).2.next<=Aa) :
    Calls Tryz.prog 70 #[.pointer (some ⟨pb,0,none⟩),bI h o1 l1 c1 o2 l2 c2,.slice eo en ec] W (Oa X most pb W (firstM most h (bT most ps) E mk) (ug most h (bT most ps) E mk)):=by
 have hl2:2<=l2:=by rw [hs2.1];exact hok.2.2.2.2.1 hk
 obtain ⟨b9,aK,u,qu,lq,lu,d1u,lC,lD,lF,e9,_,gu,ru,cu,su,tu⟩:=hs2.nth (i:=0) (by omega);subst e9;have ig:=hR b9 ru;obtain ⟨W0,hW0⟩:∃ W0,W0=W.alloc (.cells (cells9 h o1 l1 c1 (some ⟨b9,aK,none⟩) l2 c2) 29):=⟨_,rfl⟩;have hq0:ah W W0:=by rw [hW0];exact ah.alloc _ _
 have h4:Bx pb W0 W.heap.size (cells9 h o1 l1 c1 (some ⟨b9,aK,none⟩) l2 c2) 29:=Bx.new hm hq0 (Nat.le_refl _) (by rw [hW0];exact heap_alloc_new W _);have hp:=hm.lt;have hl0:=Later.aT hq0 hp;have yQ:=hid hl0;have HM:=hid hm;have Fv:=hid (hm.stay hq0);have H4:=hid h4;have HP:=hid hp;have HR:=hid hR;have Ep:=hid hb;have HE:=hid hE;have wR:=hid pK;have Ku:=hid gu;have Aw:=hid su;have Az:=hid tu;have AZ:=hid cu;have Q9:=hid ig;have XE:=hid (To.dK ps 0 u qu gu);have Ob:=hid (gJ ps 0 u qu mZ gu);have IH:=hid ih;have HZ:=hid hz;have HEC:=hid vX;have hi0:(0:Int) < l2:=by omega
 have hj0:0 < l2:=by omega
 have t7:(h.k == 7)=true:=by rw [hk];rfl
 have XF:Hid (Sc.bP (h.nm::names e) u qu=[]):=by
  show _=_
  have k:=oK hfr (by rw [hk];decide) gu
  rwa [rM _ _ (by rw [hk];rfl)] at k
 obtain ⟨rt,hrt⟩:∃ rt,dF most u qu ((h.nm,pu (tv mk.next))::E) { mk with next:=mk.next+1 }=rt:=⟨_,rfl⟩;obtain ⟨res,hres⟩:∃ res,((tv mk.next,(dw most (tv mk.next) rt.1 h.fr h.en rt.2).2):Ty × Mk)=res:=⟨_,rfl⟩;have hf:firstM most h (bT most ps) E mk=res:=by rw [<-hres,<-hrt];unfold firstM;rw [if_neg (by omega),yw gu];rfl
 have sN:Hid (res.2.next<=Aa):=by show _<=_;rw [<-hf];exact hN
 have ZM:Hid (ug most h (bT most ps) E mk=copied most (res.2.eqs.drop mk.eqs.length) res.1 mk.next res.2.next):=by show _=_;unfold ug;rw [hf]
 have Ui:Hid (mk.next<=res.2.next/\mk.eqs.length<=res.2.eqs.length):=by
  have k:=(lQ most u qu ((h.nm,pu (tv mk.next))::E) (hE.ne.cons (NM.pure _))).bind (fun t=>(NM.eqn most (tv mk.next) t h.fr h.en)) { mk with next:=mk.next+1 }
  show mk.next<=_/\_
  rw [<-hres];unfold bd at k;rw [hrt] at k;exact ⟨Nat.le_trans (Nat.le_succ _) k.1,k.2⟩
 have lT:=hid hres;have xB:=hid hrt;have abr:Hid (rt.2.next<=Aa):=by
  have k:=sN.out;rw [<-hres] at k
  show _<=_
  simpa only [rO] using k
 rw [hf];rw [ZM.out];obtain ⟨o0,k0,xs0,lH⟩:=Fv.out;obtain ⟨q0,q1,q2,q3⟩:=bV lH.box;have hsl:∀ j,j=mk.eqs.length->(0:Int)<=(j:Int):=fun j _=>by omega
 have hfew:=lH.few;clear hsl lH;obtain ⟨a0,a1,a2,a3,a4,a5,a6,a7,a8⟩:=aA H4.out.1;clear hk hs2 hR hm hb hE hok mZ hfr hN hl0 hq0 h4 hp hf pK gu su tu cu ig ru ih hz vX hrt;obtain ⟨start,hstart⟩:∃ start,mk.eqs.length=start:=⟨_,rfl⟩;have HST:=hid hstart;rw [hstart] at q0 hfew;clear hstart;unfold bI;go_enter Tryz.func70,Tryz.ntmps70;generalize dW:W.heap.size=B at *;go_upto_region 1 with fail
 rw [<-hW0];clear hW0;go_quiet (fail);have xu:=ah.drewN W0 nq;obtain ⟨W1,hW1⟩:∃ W1,W1=(W0.drewN nq).alloc (.cells #[.int .i64 0,.int .i64 0,.slice none 0 0] 24):=⟨_,rfl⟩;have hq1:ah W0 W1:=by rw [hW1];exact xu.trans (ah.alloc _ _)
 have h9:Bx pb W1 W0.heap.size #[.int .i64 0,.int .i64 0,.slice none 0 0] 24:=Bx.new Fv.out hq1 (Nat.le_refl _) (by rw [hW1];exact heap_alloc_new (W0.drewN nq) _);have hz1:W0.heap.size < W1.heap.size:=by rw [hW1];simp [World.drewN]
 have hm1:=Fv.out.more hq1 (fun i=>i=W0.heap.size) (fun i hi=>by subst hi;exact ⟨Nat.le_refl _,hz1⟩);obtain ⟨X1,hX1⟩:∃ X1,X1=(fun i=>X i∨i=W0.heap.size):=⟨_,rfl⟩;have jO:Hid (∀ i,X1 i=(X i∨i=W0.heap.size)):=fun i=>by rw [hX1]
 rw [<-hX1] at hm1;have V4:=hid hm1;have N7:Hid (pb < W.heap.size):=by show pb < _;rw [dW];exact HP.out
 have OL:=hid (yQ.out.quiet hq1 N7.out);have H9:=hid h9;have H41:=hid (H4.out.later (Later.aT hq1 Fv.out.lt));have HB1:Hid (B < W0.heap.size):=lt_of_block H4.out.1;have HB0:Hid (B<=W0.heap.size):=by show B<=_;rw [<-dW];exact (yQ.out).size
 clear hq1 hm1 h9 xu hX1 hz1 q0 q1 q2 q3 a0 a1 a2 a3 a4 a5 a6 a7 a8;go_upto_region 3 with fail
 change Code.wp _ _ _ _ ((W0.drewN nq).alloc (.cells #[.int .i64 0,.int .i64 0,.slice none 0 0] 24));rw [<-hW1];clear hW1;have hD0:(W0.drewN nq).heap.size=W0.heap.size:=rfl
 try rw [hD0]
 clear hD0;generalize hD:W0.heap.size=D at *;clear yQ Fv H4 hD;obtain ⟨a0,a1,a2,a3,a4,a5,a6,a7,a8⟩:=aA H41.out.1;have ZN:(EC W1 b9 aK u lq lu d1u lC lD lF):=fA AZ.out Q9.out HM.out OL.out;obtain ⟨v0,v1,v2,v3,v4,v5,v6,v7,v8⟩:=ZN;obtain ⟨d0,d1,d2,y0,y1,y2⟩:=ay H9.out.1;have hbn:mk.next+1<=500000000:=by
  have k:=(lQ most u qu ((h.nm,pu (tv mk.next))::E) (HE.out.ne.cons (NM.pure _)) { mk with next:=mk.next+1 }).1;rw [xB.out] at k;exact Nat.le_trans k abr.out
 have PO:=hid (take_any V4.out (by omega));go_wp2_with fail;refine PO.out.mono ?_;rintro x w3 ⟨nv,ov,cv,hnv,rfl,nR,hl3⟩;obtain rfl:mk.next=nv:=Hl hnv
 replace nR:dV X1 most pb w3 { mk with next:=mk.next+1 }:=nR;have ZO:=H9.out.later hl3;have Uj:=OL.out.trans hl3;obtain ⟨d0',d1',d2',y0',y1',y2'⟩:=ay ZO.1;clear a0 a1 a2 a3 a4 a5 a6 a7 a8 v0 v1 v2 v3 v4 v5 v6 v7 v8 d0 d1 d2 y0 y1 y2;have AY:=hid nR;have tY:=hid Uj;have H93:=hid ZO;have H43:=hid (H41.out.later hl3);clear nR hl3 ZO Uj hnv PO;unfold dZ;go_upto_region 5 with fail
 clear d0' d1' d2' y0' y1' y2';obtain ⟨W4,yN⟩:∃ W4,W4=bC w3 D (.int .i64 1) (.int .i64 mk.next) (.slice ov 0 cv):=⟨_,rfl⟩;change Code.wp _ _ _ _ (bC w3 D (.int .i64 1) (.int .i64 mk.next) (.slice ov 0 cv));have hf4:=bg w3 D (.int .i64 1) (.int .i64 mk.next) (.slice ov 0 cv);have hb4:(bC w3 D (.int .i64 1) (.int .i64 mk.next) (.slice ov 0 cv)).heap[D]?=_:=jA (u:=.slice ov 0 cv) (jf (u:=.int .i64 mk.next) (jB (u:=.int .i64 1) H93.out.1));rw [<-yN] at hf4 hb4 ⊢;clear yN;have Kw:=hid (AY.out.put (hf4.mono (fun i _ e=>by rw [jO.out];exact Or.inr e)));have zY:=hid (tY.out.put hf4 N7.out (fun i hi=>by have:=HB0.out;omega));have HD4:Hid (Bx pb W4 D #[.int .i64 1,.int .i64 mk.next,.slice ov 0 cv] 24):=⟨hb4,Kw.out.far (by rw [jO.out];exact Or.inr rfl)⟩;have HT4:Hid (Bx pb W4 B (cells9 h o1 l1 c1 (some ⟨b9,aK,none⟩) l2 c2) 29):=by
  have hne:¬ B=D:=by have:=HB1.out;omega
  have hb:=aC hf4 (fun e=>hne e) H43.out.1;exact ⟨hb,fun e=>H43.out.2 (e.imp id (fun e=>by unfold Rw at e ⊢;rwa [hf4.bf AY.out.lt (fun e=>by have k:=Kw.out.far (i:=D) (by rw [jO.out];exact Or.inr rfl);exact k (Or.inl e.symm))] at e))⟩
 have bK:Hid (∀ W,Later pb W4 W->(qP W B h o1 l1 c1 (some ⟨b9,aK,none⟩) l2 c2)/\(xw W D (.int .i64 1) (.int .i64 mk.next) (.slice ov 0 cv))/\(EC W b9 aK u lq lu d1u lC lD lF)):=fun W' hl=>by
  obtain ⟨k0,k1,k2,_⟩:=ay (HD4.out.later hl).1;exact ⟨aA (HT4.out.later hl).1,⟨k0,k1,k2⟩,fA AZ.out Q9.out HM.out (zY.out.trans hl)⟩
 have hpb:=Kw.out.lt;have V7:Hid (∀ W X2,dV X2 most pb W { mk with next:=mk.next+1 }->Calls Tryz.prog 69 #[.agg #[.int .i64 1,.int .i64 mk.next,.slice ov 0 cv]] W (SgQ most pb (mk.next+1) W (pu (tv mk.next)))):=fun W X2 hm=>C9 hm
 have XG:Hid (∀ W X2 bs ls,Later pb W4 W->dV X2 most pb W { mk with next:=mk.next+1 }->jW most pb (mk.next+1) W (.func bs #[] ls) (pu (tv mk.next))->Calls Tryz.prog 68 #[.slice eo en ec,.string h.nm,.func bs #[] ls] W (WtQ most pb (mk.next+1) W (en+1) ((h.nm,.func bs #[] ls)::e) ((h.nm,pu (tv mk.next))::E))):=fun W X2 bs ls hl hm hf=>by
  have hl':=zY.out.trans hl;exact uT h.nm hm (Ep.out.later hl') (HE.out.later hl' (by omega)) HEC.out (by have:=HZ.out;omega) hf (NM.pure _)
 have nY:Hid (∀ W X2 o c bs ls,Later pb W4 W->dV X2 most pb W { mk with next:=mk.next+1 }->en+1<=c->Ij most pb (mk.next+1) W o (en+1) ((h.nm,.func bs #[] ls)::e) ((h.nm,pu (tv mk.next))::E)->Calls Tryz.prog 42 #[.pointer (some ⟨pb,0,none⟩),bI u lq lu d1u lC lD lF,.slice o (en+1) c] W (Iz X2 most pb W rt)):=fun W X2 o c bs ls hl hm hc hpk=>by
  have hl':=zY.out.trans hl;have k:=IH.out 0 u qu Ku.out W R X2 most pb { mk with next:=mk.next+1 } lq lu d1u lC lD lF o (en+1) c _ _ (jI Aw.out HR.out HM.out hl') (fO Az.out HR.out HM.out hl') HR.out hm wR.out hpk.1 hc (by have:=XE.out;have:=HZ.out;omega) hpk.2 Ob.out.1 Ob.out.2 XF.out (by rw [xB.out];exact abr.out);rw [xB.out] at k;exact k
 unfold bI at nY;obtain ⟨⟨a0,a1,a2,a3,a4,a5,a6,a7,a8⟩,⟨g0,g1,g2⟩,⟨v0,v1,v2,v3,v4,v5,v6,v7,v8⟩⟩:=bK.out W4 (Later.refl hpb);clear hf4 hb4;go_cut [10] (fun v wx=>ac5 X1 most pb W4 rt v wx)
 case first =>
  refine wp_region_held_drew (S:=(fun (W:World)=>(qP W B h o1 l1 c1 (some ⟨b9,aK,none⟩) l2 c2)/\(xw W D (.int .i64 1) (.int .i64 mk.next) (.slice ov 0 cv))/\(EC W b9 aK u lq lu d1u lC lD lF))) (by kernel_rfl) ?JD (fun hHeld=>?_)
  case JD=>exact bK.out _ (Later.aT (ah.drew W4) hpb)
  have hmd:=Kw.out.stay (ah.drew W4);have hld:=(Later.refl hpb).quiet (ah.drew W4) hpb;generalize W4.drew=wd at *;refine Hd.tk 0 rfl ?_;go_frame;refine Hd.tk 1 rfl ?_;go_frame;refine Hd.tk 2 rfl ?_;go_frame;refine Hd.tk 3 rfl ?_;go_frame;refine Hd.tk 4 rfl ?_;go_frame;refine Hd.tk 5 rfl ?_;go_frame;refine Hd.tk 6 rfl ?_;go_frame;refine Hd.tk 7 rfl ?_;go_frame;refine Hd.tk 8 rfl ?_;go_frame;refine wpAnyH_ready (rs:=[9,12]) (by kernel_rfl) (by simp) ?_;refine Hd.cn 9 rfl (fun K hK=>?_) ?_
  ·go_simp;go_at_call 69
   (with_reducible refine Calls.mono (V7.out _ _ hmd) ?_)
   rintro x YC ⟨bs,ls,rfl,hme,gB⟩;have Ho:=hmd.stay gB;have Hq:=hld.quiet gB hpb;refine hK.out _ _ ?Un (fun hHeld=>?_)
   case Un=>exact bK.out _ Hq
   clear hK K
   (try go_frame)
   refine wpAnyH_ready (rs:=[10,12]) (by kernel_rfl) (by simp) ?_;refine Hd.cn 10 rfl (fun K hK=>?_) ?_
   ·go_simp;go_at_call 68
    (with_reducible refine Calls.mono (XG.out _ _ bs ls Hq Ho hme) ?_)
    rintro x XH ⟨wo,wc,rfl,hwc,hpk,gB⟩;have JE:=Ho.stay gB;have zA:=Hq.quiet gB hpb;refine hK.out _ _ ?Uo (fun hHeld=>?_)
    case Uo=>exact bK.out _ zA
    clear hK K
    (try go_frame)
    refine wpAnyH_ready (rs:=[11,12]) (by kernel_rfl) (by simp) ?_;refine Hd.cn 11 rfl (fun K hK=>?_) ?_
    ·go_simp;go_at_call 42
     (with_reducible refine Calls.mono (nY.out _ _ wo wc bs ls zA JE hwc hpk) ?_)
     rintro x D9 ⟨n9,o9,c9,qK,rfl,JF,hlq⟩;unfold dZ;have AA:=zA.trans hlq;refine hK.out _ _ ?Ur (fun hHeld=>?_)
     case Ur=>exact bK.out _ AA
     clear hK K
     (try go_frame)
     refine wpAnyH_ready (rs:=[12]) (by kernel_rfl) (by simp) ?_;refine Hd.cn 12 rfl (fun K hK=>?_) ?_
     ·go_simp;obtain ⟨wa,kN⟩:∃ wa,wa=D9.alloc (.cells #[.int .i64 0,.int .i64 0,.slice none 0 0] 24):=⟨_,rfl⟩;have hqa:ah D9 wa:=by rw [kN];exact ah.alloc _ _
      have Ad:Bx pb wa D9.heap.size #[.int .i64 0,.int .i64 0,.slice none 0 0] 24:=Bx.new JF hqa (Nat.le_refl _) (by rw [kN];exact heap_alloc_new D9 _);have hma:=JF.more hqa (fun i=>i=D9.heap.size) (fun i hi=>by subst hi;exact ⟨Nat.le_refl _,by rw [kN];simp⟩);have hla:=AA.quiet hqa hpb;have hgF:W4.heap.size<=D9.heap.size:=(AA).size;rw [<-kN];clear kN;generalize D9.heap.size=F at *;refine hK.out _ _ ?Us (fun hHeld=>?_)
      case Us=>exact bK.out _ hla
      clear hK K
      (try go_frame)
      refine wpAnyH_ready (rs:=[13]) (by kernel_rfl) (by simp) ?_;refine Hd.cn 13 rfl (fun K hK=>?_) ?_
      ·obtain ⟨z0,z1,z2,y0,y1,y2⟩:=ay Ad.1;go_simp;have Ut:=bg wa F (.int .i64 1) (.int .i64 n9) (.slice o9 0 c9);have ZR:(bC wa F (.int .i64 1) (.int .i64 n9) (.slice o9 0 c9)).heap[F]?=_:=jA (u:=.slice o9 0 c9) (jf (u:=.int .i64 n9) (jB (u:=.int .i64 1) Ad.1));change K _ (bC wa F (.int .i64 1) (.int .i64 n9) (.slice o9 0 c9));generalize bC wa F (.int .i64 1) (.int .i64 n9) (.slice o9 0 c9)=wf at *;have hmf:=hma.put (Ut.mono (fun i _ e=>Or.inr e));have hlf:=hla.put Ut hpb (fun i hi=>by omega);refine hK.out _ _ ?Uu (fun hHeld=>?_)
       case Uu=>exact bK.out _ hlf
       clear hK K
       (try go_frame)
       refine wpAnyH_done (by kernel_rfl) ?_ _;go_wp2_with fail;go_meet;exact ⟨F,n9,o9,c9,rfl,qK,⟨ZR,hmf.far (Or.inr rfl)⟩,hmf.less (fun i hi=>Or.inl hi),hlf⟩
      exact AllReadyH.nil
     exact AllReadyH.nil
    refine Hd.cn 12 rfl (fun K hK=>?_) ?_
    ·go_simp;obtain ⟨wa,kN⟩:∃ wa,wa=XH.alloc (.cells #[.int .i64 0,.int .i64 0,.slice none 0 0] 24):=⟨_,rfl⟩;have hqa:ah XH wa:=by rw [kN];exact ah.alloc _ _
     have Ad:Bx pb wa XH.heap.size #[.int .i64 0,.int .i64 0,.slice none 0 0] 24:=Bx.new JE hqa (Nat.le_refl _) (by rw [kN];exact heap_alloc_new XH _);have hma:=JE.more hqa (fun i=>i=XH.heap.size) (fun i hi=>by subst hi;exact ⟨Nat.le_refl _,by rw [kN];simp⟩);have hla:=zA.quiet hqa hpb;have hgF:W4.heap.size<=XH.heap.size:=(zA).size;rw [<-kN];clear kN;generalize XH.heap.size=F at *;refine hK.out _ _ ?Uw (fun hHeld=>?_)
     case Uw=>exact bK.out _ hla
     clear hK K
     (try go_frame)
     have hpk:=Ij.st JE hqa hpk;refine wpAnyH_ready (rs:=[11]) (by kernel_rfl) (by simp) ?_;refine Hd.cn 11 rfl (fun K hK=>?_) ?_
     ·go_simp;go_at_call 42
      (with_reducible refine Calls.mono (nY.out _ _ wo wc bs ls hla hma hwc hpk) ?_)
      rintro x D9 ⟨n9,o9,c9,qK,rfl,JF,hlq⟩;unfold dZ;have Ad:=Ad.later hlq;have AA:=hla.trans hlq;refine hK.out _ _ ?Ux (fun hHeld=>?_)
      case Ux=>exact bK.out _ AA
      clear hK K
      (try go_frame)
      refine wpAnyH_ready (rs:=[13]) (by kernel_rfl) (by simp) ?_;refine Hd.cn 13 rfl (fun K hK=>?_) ?_
      ·obtain ⟨z0,z1,z2,y0,y1,y2⟩:=ay Ad.1;go_simp;have Ut:=bg D9 F (.int .i64 1) (.int .i64 n9) (.slice o9 0 c9);have ZR:(bC D9 F (.int .i64 1) (.int .i64 n9) (.slice o9 0 c9)).heap[F]?=_:=jA (u:=.slice o9 0 c9) (jf (u:=.int .i64 n9) (jB (u:=.int .i64 1) Ad.1));change K _ (bC D9 F (.int .i64 1) (.int .i64 n9) (.slice o9 0 c9));generalize bC D9 F (.int .i64 1) (.int .i64 n9) (.slice o9 0 c9)=wf at *;have hmf:=JF.put (Ut.mono (fun i _ e=>Or.inr e));have hlf:=AA.put Ut hpb (fun i hi=>by omega);refine hK.out _ _ ?Uy (fun hHeld=>?_)
       case Uy=>exact bK.out _ hlf
       clear hK K
       (try go_frame)
       refine wpAnyH_done (by kernel_rfl) ?_ _;go_wp2_with fail;go_meet;exact ⟨F,n9,o9,c9,rfl,qK,⟨ZR,hmf.far (Or.inr rfl)⟩,hmf.less (fun i hi=>Or.inl hi),hlf⟩
      exact AllReadyH.nil
     exact AllReadyH.nil
    exact AllReadyH.nil
   refine Hd.cn 12 rfl (fun K hK=>?_) ?_
   ·go_simp;obtain ⟨wa,kN⟩:∃ wa,wa=YC.alloc (.cells #[.int .i64 0,.int .i64 0,.slice none 0 0] 24):=⟨_,rfl⟩;have hqa:ah YC wa:=by rw [kN];exact ah.alloc _ _
    have Ad:Bx pb wa YC.heap.size #[.int .i64 0,.int .i64 0,.slice none 0 0] 24:=Bx.new Ho hqa (Nat.le_refl _) (by rw [kN];exact heap_alloc_new YC _);have hma:=Ho.more hqa (fun i=>i=YC.heap.size) (fun i hi=>by subst hi;exact ⟨Nat.le_refl _,by rw [kN];simp⟩);have hla:=Hq.quiet hqa hpb;have hgF:W4.heap.size<=YC.heap.size:=(Hq).size;rw [<-kN];clear kN;generalize YC.heap.size=F at *;refine hK.out _ _ ?Uz (fun hHeld=>?_)
    case Uz=>exact bK.out _ hla
    clear hK K
    (try go_frame)
    have hme:=jW.st Ho hqa hme;refine wpAnyH_ready (rs:=[10]) (by kernel_rfl) (by simp) ?_;refine Hd.cn 10 rfl (fun K hK=>?_) ?_
    ·go_simp;go_at_call 68
     (with_reducible refine Calls.mono (XG.out _ _ bs ls hla hma hme) ?_)
     rintro x XH ⟨wo,wc,rfl,hwc,hpk,gB⟩;have JE:=hma.stay gB;have zA:=hla.quiet gB hpb;have Ad:=Ad.later (Later.aT gB hma.lt);refine hK.out _ _ ?UA (fun hHeld=>?_)
     case UA=>exact bK.out _ zA
     clear hK K
     (try go_frame)
     refine wpAnyH_ready (rs:=[11]) (by kernel_rfl) (by simp) ?_;refine Hd.cn 11 rfl (fun K hK=>?_) ?_
     ·go_simp;go_at_call 42
      (with_reducible refine Calls.mono (nY.out _ _ wo wc bs ls zA JE hwc hpk) ?_)
      rintro x D9 ⟨n9,o9,c9,qK,rfl,JF,hlq⟩;unfold dZ;have Ad:=Ad.later hlq;have AA:=zA.trans hlq;refine hK.out _ _ ?UC (fun hHeld=>?_)
      case UC=>exact bK.out _ AA
      clear hK K
      (try go_frame)
      refine wpAnyH_ready (rs:=[13]) (by kernel_rfl) (by simp) ?_;refine Hd.cn 13 rfl (fun K hK=>?_) ?_
      ·obtain ⟨z0,z1,z2,y0,y1,y2⟩:=ay Ad.1;go_simp;have Ut:=bg D9 F (.int .i64 1) (.int .i64 n9) (.slice o9 0 c9);have ZR:(bC D9 F (.int .i64 1) (.int .i64 n9) (.slice o9 0 c9)).heap[F]?=_:=jA (u:=.slice o9 0 c9) (jf (u:=.int .i64 n9) (jB (u:=.int .i64 1) Ad.1));change K _ (bC D9 F (.int .i64 1) (.int .i64 n9) (.slice o9 0 c9));generalize bC D9 F (.int .i64 1) (.int .i64 n9) (.slice o9 0 c9)=wf at *;have hmf:=JF.put (Ut.mono (fun i _ e=>Or.inr e));have hlf:=AA.put Ut hpb (fun i hi=>by omega);refine hK.out _ _ ?UD (fun hHeld=>?_)
       case UD=>exact bK.out _ hlf
       clear hK K
       (try go_frame)
       refine wpAnyH_done (by kernel_rfl) ?_ _;go_wp2_with fail;go_meet;exact ⟨F,n9,o9,c9,rfl,qK,⟨ZR,hmf.far (Or.inr rfl)⟩,hmf.less (fun i hi=>Or.inl hi),hlf⟩
      exact AllReadyH.nil
     exact AllReadyH.nil
    exact AllReadyH.nil
   exact AllReadyH.nil
  refine Hd.cn 12 rfl (fun K hK=>?_) ?_
  ·go_simp;obtain ⟨wa,kN⟩:∃ wa,wa=wd.alloc (.cells #[.int .i64 0,.int .i64 0,.slice none 0 0] 24):=⟨_,rfl⟩;have hqa:ah wd wa:=by rw [kN];exact ah.alloc _ _
   have Ad:Bx pb wa wd.heap.size #[.int .i64 0,.int .i64 0,.slice none 0 0] 24:=Bx.new hmd hqa (Nat.le_refl _) (by rw [kN];exact heap_alloc_new wd _);have hma:=hmd.more hqa (fun i=>i=wd.heap.size) (fun i hi=>by subst hi;exact ⟨Nat.le_refl _,by rw [kN];simp⟩);have hla:=hld.quiet hqa hpb;have hgF:W4.heap.size<=wd.heap.size:=(hld).size;rw [<-kN];clear kN;generalize wd.heap.size=F at *;refine hK.out _ _ ?UE (fun hHeld=>?_)
   case UE=>exact bK.out _ hla
   clear hK K
   (try go_frame)
   refine wpAnyH_ready (rs:=[9]) (by kernel_rfl) (by simp) ?_;refine Hd.cn 9 rfl (fun K hK=>?_) ?_
   ·go_simp;go_at_call 69
    (with_reducible refine Calls.mono (V7.out _ _ hma) ?_)
    rintro x YC ⟨bs,ls,rfl,hme,gB⟩;have Ho:=hma.stay gB;have Hq:=hla.quiet gB hpb;have Ad:=Ad.later (Later.aT gB hma.lt);refine hK.out _ _ ?UF (fun hHeld=>?_)
    case UF=>exact bK.out _ Hq
    clear hK K
    (try go_frame)
    refine wpAnyH_ready (rs:=[10]) (by kernel_rfl) (by simp) ?_;refine Hd.cn 10 rfl (fun K hK=>?_) ?_
    ·go_simp;go_at_call 68
     (with_reducible refine Calls.mono (XG.out _ _ bs ls Hq Ho hme) ?_)
     rintro x XH ⟨wo,wc,rfl,hwc,hpk,gB⟩;have JE:=Ho.stay gB;have zA:=Hq.quiet gB hpb;have Ad:=Ad.later (Later.aT gB Ho.lt);refine hK.out _ _ ?UG (fun hHeld=>?_)
     case UG=>exact bK.out _ zA
     clear hK K
     (try go_frame)
     refine wpAnyH_ready (rs:=[11]) (by kernel_rfl) (by simp) ?_;refine Hd.cn 11 rfl (fun K hK=>?_) ?_
     ·go_simp;go_at_call 42
      (with_reducible refine Calls.mono (nY.out _ _ wo wc bs ls zA JE hwc hpk) ?_)
      rintro x D9 ⟨n9,o9,c9,qK,rfl,JF,hlq⟩;unfold dZ;have Ad:=Ad.later hlq;have AA:=zA.trans hlq;refine hK.out _ _ ?abt (fun hHeld=>?_)
      case abt=>exact bK.out _ AA
      clear hK K
      (try go_frame)
      refine wpAnyH_ready (rs:=[13]) (by kernel_rfl) (by simp) ?_;refine Hd.cn 13 rfl (fun K hK=>?_) ?_
      ·obtain ⟨z0,z1,z2,y0,y1,y2⟩:=ay Ad.1;go_simp;have Ut:=bg D9 F (.int .i64 1) (.int .i64 n9) (.slice o9 0 c9);have ZR:(bC D9 F (.int .i64 1) (.int .i64 n9) (.slice o9 0 c9)).heap[F]?=_:=jA (u:=.slice o9 0 c9) (jf (u:=.int .i64 n9) (jB (u:=.int .i64 1) Ad.1));change K _ (bC D9 F (.int .i64 1) (.int .i64 n9) (.slice o9 0 c9));generalize bC D9 F (.int .i64 1) (.int .i64 n9) (.slice o9 0 c9)=wf at *;have hmf:=JF.put (Ut.mono (fun i _ e=>Or.inr e));have hlf:=AA.put Ut hpb (fun i hi=>by omega);refine hK.out _ _ ?UH (fun hHeld=>?_)
       case UH=>exact bK.out _ hlf
       clear hK K
       (try go_frame)
       refine wpAnyH_done (by kernel_rfl) ?_ _;go_wp2_with fail;go_meet;exact ⟨F,n9,o9,c9,rfl,qK,⟨ZR,hmf.far (Or.inr rfl)⟩,hmf.less (fun i hi=>Or.inl hi),hlf⟩
      exact AllReadyH.nil
     exact AllReadyH.nil
    exact AllReadyH.nil
   exact AllReadyH.nil
  exact AllReadyH.nil
 case rest =>
  rename World=>w5
  obtain ⟨F,n9,o9,c9,rfl,qK,Ad,D8,hl5⟩:=hcut;have ac8:=hid D8;have abu:=hid hl5;clear a0 a1 a2 a3 a4 a5 a6 a7 a8 g0 g1 g2 v0 v1 v2 v3 v4 v5 v6 v7 v8;obtain ⟨⟨a0,a1,a2,a3,a4,a5,a6,a7,a8⟩,⟨g0,g1,g2⟩,_⟩:=bK.out w5 hl5;obtain ⟨z0,z1,z2,_,_,_⟩:=ay Ad.1;have xG:Hid (Calls Tryz.prog 66 #[.pointer (some ⟨pb,0,none⟩),.agg #[.int .i64 1,.int .i64 mk.next,.slice ov 0 cv],.agg #[.int .i64 1,.int .i64 n9,.slice o9 0 c9],.agg #[.int .i64 h.fr,.int .i64 h.en]] w5 (IB X1 most pb w5 res.2)):=by
   have k:=dO (o1:=ov) (l1:=0) (c1:=cv) (o2:=o9) (l2:=0) (c2:=c9) ac8.out wR.out (tv mk.next) (tv n9) h.fr h.en (aB.nil _ _ _) (aB.nil _ _ _) (Nat.le_of_ble_eq_true rfl) (Nat.le_of_ble_eq_true rfl);rw [show (dw most (tv mk.next) (tv n9) h.fr h.en rt.2).2=res.2 from by rw [<-lT.out,qK]] at k;exact k
  clear D8 hl5 Ad;go_wp2_with fail;refine xG.out.mono ?_;rintro x W5 ⟨rfl,D8,hl5⟩;have Kv:=hid D8;have Wj:=hid (zY.out.trans (abu.out.trans hl5));obtain ⟨f0,f1,f2,_⟩:=ay (HD4.out.later (abu.out.trans hl5)).1;clear D8 hl5 a0 a1 a2 a3 a4 a5 a6 a7 a8 g0 g1 g2 z0 z1 z2;have HNV:Hid (res.1=tv mk.next):=by show _=_;rw [<-lT.out]
  obtain ⟨o5,c5,xs5,hmk5⟩:=Kv.out;obtain ⟨q0,q1,q2,q3⟩:=bV hmk5.box;obtain ⟨ln,hln⟩:∃ ln,res.2.eqs.length=ln:=⟨_,rfl⟩;have hle:start<=ln:=by have:=Ui.out.2;rw [HST.out,hln] at this;exact this
  have hform:=hmk5.form;have hlz:ln<=4096:=by have:=hmk5.few;omega
  have Uk:=hmk5.small;rw [hln] at q0 hform;have wE:=hid hln;have hs0:(0:Int)<=start:=by omega
  have hs1:(start:Int)<=ln:=by omega
  have hs2:(ln:Int)<=ln:=Int.le_refl _;have hs3:IntKind.i64.wrap ((ln:Int)-start)=((ln-start:Nat):Int):=by rw [IntWalk.i64_in _ (by omega)];omega
  have hkd:(res.2.eqs.drop start).length=ln-start/\∀ t∈res.2.eqs.drop start,t.1.2.2.size<=100000/\t.2.1.2.2.size<=100000:=by
   exact ⟨by rw [List.length_drop,wE.out],fun t ht=>Uk t (List.mem_of_mem_drop ht)⟩
  have ZP:=hid hmk5;have Ul:Hid (ln=start->∀ ko,KeptAt pb W5 ko (res.2.eqs.drop start)):=fun he ko=>.inl (List.eq_nil_of_length_eq_zero (by rw [List.length_drop,wE.out];omega))
  have Qo:Hid (∀ ko,KeptAt pb W5 ko (res.2.eqs.drop start)->Calls Tryz.prog 99 #[.slice ko (ln-start) (ln-start),.agg #[.int .i64 1,.int .i64 mk.next,.slice ov 0 cv],.int .i64 mk.next,.int .i64 res.2.next] W5.drew fun x w'=>∃ bs ls,x=.returned (.func bs #[] ls)/\jW most pb res.2.next w' (.func bs #[] ls) (copied most (res.2.eqs.drop start) (tv mk.next) mk.next res.2.next)/\ah W5.drew w'):=fun ko hk=>by
   have hl:=Later.aT (ah.drew W5) Kv.out.lt;have k:=Dc (lo:=res.2.next) (Kv.out.stay (ah.drew W5)) wR.out mk.next mk.next res.2.next (res.2.eqs.drop start) ko (ln-start) ov cv (hk.later hl) (by rw [hkd.1];omega) hkd.2 Ui.out.1 (Nat.le_refl _)
   rw [hkd.1] at k;exact k
  unfold dZ at Qo;have ZQ:Hid (res.1=tv mk.next):=HNV.out;clear hmk5 hln hkd Uk;go_upto_region 8 with fail
  rcases hform with ⟨h1,h2,h3⟩ | ⟨g,h1,_,_,h4⟩
  ·subst h1;subst h2;subst h3;obtain rfl:start=0:=by omega
   have Qp:=hid (Qo.out none (Ul.out rfl none));refine wp_region_still_tail 22 (by kernel_rfl) (by kernel_rfl) ?_;simp only [List.take_succ_cons,List.take_zero,List.drop_succ_cons,List.drop_zero];change wpStill _ _ (World.drew W5) _ _ _
   repeat still_step
   refine wpStill_nil ?_;change wpList _ _ _ _ _ (World.drew W5);go_wp2_with fail;refine Qp.out.mono ?_;rintro x w6 ⟨bs,ls,rfl,hme,hq6⟩;go_wp2_with fail;go_ret;have hq5:=(ah.drew W5).trans hq6;exact ⟨bs,ls,rfl,by rw [HST.out,ZQ.out];exact hme,(Kv.out.stay hq5).less (fun i hi=>by rw [jO.out];exact Or.inl hi),Wj.out.quiet hq5 N7.out⟩
  ·subst h1;have hs4:(ln:Int)<=c5:=by omega
   by_cases hls:ln=start
   ·subst hls;have Qp:=hid (Qo.out (some ⟨g,0,none⟩) (Ul.out rfl _));simp only [Nat.sub_self] at Qp hs3;refine wp_region_still_tail 22 (by kernel_rfl) (by kernel_rfl) ?_;simp only [List.take_succ_cons,List.take_zero,List.drop_succ_cons,List.drop_zero];change wpStill _ _ (World.drew W5) _ _ _
    repeat still_step
    refine wpStill_nil ?_;change wpList _ _ _ _ _ (World.drew W5);go_wp2_with fail;refine Qp.out.mono ?_;rintro x w6 ⟨bs,ls,rfl,hme,hq6⟩;go_wp2_with fail;go_ret;have hq5:=(ah.drew W5).trans hq6;exact ⟨bs,ls,rfl,by rw [HST.out,ZQ.out];exact hme,(Kv.out.stay hq5).less (fun i hi=>by rw [jO.out];exact Or.inl hi),Wj.out.quiet hq5 N7.out⟩
   ·have hne1:¬ (ln-start=0):=by omega
    have hne2:¬ (ln<=start):=by omega
    have Xc:start < ln:=by omega
    have ac7:0 < ln-start:=by omega
    have Qp:=hid (Qo.out (some ⟨g,start*8,none⟩) (N9 ZP.out start));refine wp_region_still_tail 22 (by kernel_rfl) (by kernel_rfl) ?_;simp only [List.take_succ_cons,List.take_zero,List.drop_succ_cons,List.drop_zero];change wpStill _ _ (World.drew W5) _ _ _
    repeat still_step
    refine wpStill_nil ?_;change wpList _ _ _ _ _ (World.drew W5);go_wp2_with fail;refine Qp.out.mono ?_;rintro x w6 ⟨bs,ls,rfl,hme,hq6⟩;go_wp2_with fail;go_ret;have hq5:=(ah.drew W5).trans hq6;exact ⟨bs,ls,rfl,by rw [HST.out,ZQ.out];exact hme,(Kv.out.stay hq5).less (fun i hi=>by rw [jO.out];exact Or.inl hi),Wj.out.quiet hq5 N7.out⟩
end Em
end
end Go.Proofs.YtcninopmelmajaaGreatDoor
