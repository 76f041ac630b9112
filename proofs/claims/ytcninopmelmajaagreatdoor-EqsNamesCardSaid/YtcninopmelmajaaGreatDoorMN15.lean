/-
  Texts laid together (EqBindR, EqTLet): laws and walks, with their conditions.
-/
import Derived.Test.YtcninopmelmajaaGreatDoorMN14
set_option maxHeartbeats 8000000
set_option maxRecDepth 1000000
namespace Go.Proofs.YtcninopmelmajaaGreatDoor
open Go.Lib (hid)
section
open Go.RowKit
namespace Em
theorem bind_rec (h : Nd) (ps : To) (ih : ∀ i g qs, ps.get i = some (g, qs) -> TmT g qs) (hk : h.k = 7) (W : World) (R X : Nat -> Prop) (most : Int) (pb : Nat) (mk : Mk) (o1 : Option Addr) (l1 c1 : Nat) (o2 : Option Addr) (l2 c2 : Nat) (eo : Option Addr) (en ec : Nat) (e : FEnv) (E : Env)
    (hs2 : TSlc R W o2 l2 ps) (hR : ∀ i, R i -> i < pb) (hm : MkE X most pb W mk) (hmost : most <= 4096) (hb : BfE pb W eo en e) (hec : en <= ec) (hz : en + ps.size <= 100000) (hE : EnvM most pb mk.next W e E) (hok : okT h ps.length) (hokl : okTL ps) (hfr : Sc.free1 (names e) h ps = []) (hN : (firstM most h (valsM most ps) E mk).2.next <= NBd) :
    Calls Tryz.prog 70 #[.pointer (some ⟨pb, 0, none⟩), tmv h o1 l1 c1 o2 l2 c2, .slice eo en ec] W (BindQ X most pb W (firstM most h (valsM most ps) E mk) (keptM most h (valsM most ps) E mk)) := by
 have hl2 : 2 <= l2 := by rw [hs2.1]; exact hok.2.2.2.2.1 hk
 obtain ⟨b9, off9, u, qu, p1u, m1u, d1u, p2u, m2u, d2u, e9, _, gu, ru, cu, su, tu⟩ := hs2.nth (i := 0) (by omega)
 subst e9
 have hb9 := hR b9 ru
 obtain ⟨W0, hW0⟩ : ∃ W0, W0 = W.alloc (.cells (cells9 h o1 l1 c1 (some ⟨b9, off9, none⟩) l2 c2) 29) := ⟨_, rfl⟩
 have hq0 : Quiet0 W W0 := by rw [hW0]; exact Quiet0.alloc _ _
 have h4 : Bx pb W0 W.heap.size (cells9 h o1 l1 c1 (some ⟨b9, off9, none⟩) l2 c2) 29 := Bx.new hm hq0 (Nat.le_refl _) (by rw [hW0]; exact heap_alloc_new W _)
 have hp := hm.lt
 have hl0 := Later.of_quiet hq0 hp
 have HL0 := hid hl0
 have HM := hid hm
 have HM0 := hid (hm.stay hq0)
 have H4 := hid h4
 have HP := hid hp
 have HR := hid hR
 have HBF := hid hb
 have HE := hid hE
 have HMO := hid hmost
 have HGU := hid gu
 have HSU := hid su
 have HTU := hid tu
 have HCU := hid cu
 have HB9 := hid hb9
 have HZU := hid (To.size_get ps 0 u qu gu)
 have HOU := hid (okTL_get ps 0 u qu hokl gu)
 have IH := hid ih
 have HZ := hid hz
 have HEC := hid hec
 have hi0 : (0 : Int) < l2 := by omega
 have hj0 : 0 < l2 := by omega
 have t7 : (h.k == 7) = true := by rw [hk]; rfl
 have HFU : Hid (Sc.free1 (h.nm :: names e) u qu = []) := by
  show _ = _
  have k := free_of hfr (by rw [hk]; decide) gu
  rwa [envOf_more _ _ (by rw [hk]; rfl)] at k
 obtain ⟨rt, hrt⟩ : ∃ rt, termM most u qu ((h.nm, pu (tv mk.next)) :: E) { mk with next := mk.next + 1 } = rt := ⟨_, rfl⟩
 obtain ⟨res, hres⟩ : ∃ res, ((tv mk.next, (eqP most (tv mk.next) rt.1 h.fr h.en rt.2).2) : Ty × Mk) = res := ⟨_, rfl⟩
 have hf : firstM most h (valsM most ps) E mk = res := by rw [<- hres, <- hrt]; unfold firstM; rw [if_neg (by omega), vat_get gu]; rfl
 have HRN : Hid (res.2.next <= NBd) := by show _ <= _; rw [<- hf]; exact hN
 have HKM : Hid (keptM most h (valsM most ps) E mk = copied most (res.2.eqs.drop mk.eqs.length) res.1 mk.next res.2.next) := by show _ = _; unfold keptM; rw [hf]
 have HMON : Hid (mk.next <= res.2.next /\ mk.eqs.length <= res.2.eqs.length) := by
  have k := (termM_nm most u qu ((h.nm, pu (tv mk.next)) :: E) (hE.ne.cons (NM.pure _))).bind (fun t => (NM.eqn most (tv mk.next) t h.fr h.en)) { mk with next := mk.next + 1 }
  show mk.next <= _ /\ _
  rw [<- hres]
  unfold bd at k
  rw [hrt] at k
  exact ⟨Nat.le_trans (Nat.le_succ _) k.1, k.2⟩
 have HEQR := hid hres
 have HRT := hid hrt
 have HRTN : Hid (rt.2.next <= NBd) := by
  have k := HRN.out
  rw [<- hres] at k
  show _ <= _
  simpa only [eqP_nx] using k
 rw [hf]
 rw [HKM.out]
 obtain ⟨o0, k0, xs0, hmka⟩ := HM0.out
 obtain ⟨q0, q1, q2, q3⟩ := mk_cells hmka.box
 have hsl : ∀ j, j = mk.eqs.length -> (0 : Int) <= (j : Int) := fun j _ => by omega
 have hfew := hmka.few
 clear hsl hmka
 obtain ⟨a0, a1, a2, a3, a4, a5, a6, a7, a8⟩ := cells9_block H4.out.1
 clear hk hs2 hR hm hb hE hok hokl hfr hN hl0 hq0 h4 hp hf hmost gu su tu cu hb9 ru ih hz hec hrt
 obtain ⟨start, hstart⟩ : ∃ start, mk.eqs.length = start := ⟨_, rfl⟩
 have HST := hid hstart
 rw [hstart] at q0 hfew
 clear hstart
 unfold tmv
 go_enter Tryz.func70, Tryz.ntmps70
 generalize hBB : W.heap.size = B at *
 go_upto_region 1 with fail
 rw [<- hW0]
 clear hW0
 go_quiet (fail)
 have hqn := Quiet0.drewN W0 nq
 obtain ⟨W1, hW1⟩ : ∃ W1, W1 = (W0.drewN nq).alloc (.cells #[.int .i64 0, .int .i64 0, .slice none 0 0] 24) := ⟨_, rfl⟩
 have hq1 : Quiet0 W0 W1 := by rw [hW1]; exact hqn.trans (Quiet0.alloc _ _)
 have h9 : Bx pb W1 W0.heap.size #[.int .i64 0, .int .i64 0, .slice none 0 0] 24 := Bx.new HM0.out hq1 (Nat.le_refl _) (by rw [hW1]; exact heap_alloc_new (W0.drewN nq) _)
 have hz1 : W0.heap.size < W1.heap.size := by rw [hW1]; simp [World.drewN]
 have hm1 := HM0.out.more hq1 (fun i => i = W0.heap.size) (fun i hi => by subst hi; exact ⟨Nat.le_refl _, hz1⟩)
 obtain ⟨X1, hX1⟩ : ∃ X1, X1 = (fun i => X i ∨ i = W0.heap.size) := ⟨_, rfl⟩
 have HX1 : Hid (∀ i, X1 i = (X i ∨ i = W0.heap.size)) := fun i => by rw [hX1]
 rw [<- hX1] at hm1
 have HM1 := hid hm1
 have HPW : Hid (pb < W.heap.size) := by show pb < _; rw [hBB]; exact HP.out
 have HL1 := hid (HL0.out.quiet hq1 HPW.out)
 have H9 := hid h9
 have H41 := hid (H4.out.later (Later.of_quiet hq1 HM0.out.lt))
 have HB1 : Hid (B < W0.heap.size) := lt_of_block H4.out.1
 have HB0 : Hid (B <= W0.heap.size) := by show B <= _; rw [<- hBB]; exact (HL0.out).size
 clear hq1 hm1 h9 hqn hX1 hz1 q0 q1 q2 q3 a0 a1 a2 a3 a4 a5 a6 a7 a8
 go_upto_region 3 with fail
 change Code.wp _ _ _ _ ((W0.drewN nq).alloc (.cells #[.int .i64 0, .int .i64 0, .slice none 0 0] 24))
 rw [<- hW1]
 clear hW1
 have hD0 : (W0.drewN nq).heap.size = W0.heap.size := rfl
 try rw [hD0]
 clear hD0
 generalize hD : W0.heap.size = D at *
 clear HL0 HM0 H4 hD
 obtain ⟨a0, a1, a2, a3, a4, a5, a6, a7, a8⟩ := cells9_block H41.out.1
 have hcu9 : (W1.cell? ⟨b9, off9, none⟩ = some (.int .i64 u.k) /\ W1.cell? ⟨b9, off9 + 1, none⟩ = some (.string u.nm) /\ W1.cell? ⟨b9, off9 + 2, none⟩ = some (.int .i64 u.n) /\ W1.cell? ⟨b9, off9 + 3, none⟩ = some (.int .i64 u.tk) /\ W1.cell? ⟨b9, off9 + 4, none⟩ = some (.int .i64 u.tn) /\ W1.cell? ⟨b9, off9 + 5, none⟩ = some (.slice p1u m1u d1u) /\ W1.cell? ⟨b9, off9 + 6, none⟩ = some (.slice p2u m2u d2u) /\ W1.cell? ⟨b9, off9 + 7, none⟩ = some (.int .i64 u.fr) /\ W1.cell? ⟨b9, off9 + 8, none⟩ = some (.int .i64 u.en)) := cells_later HCU.out HB9.out HM.out HL1.out
 obtain ⟨v0, v1, v2, v3, v4, v5, v6, v7, v8⟩ := hcu9
 obtain ⟨d0, d1, d2, y0, y1, y2⟩ := box_cells3 H9.out.1
 have hbn : mk.next + 1 <= 500000000 := by
  have k := (termM_nm most u qu ((h.nm, pu (tv mk.next)) :: E) (HE.out.ne.cons (NM.pure _)) { mk with next := mk.next + 1 }).1
  rw [HRT.out] at k
  exact Nat.le_trans k HRTN.out
 have HTK := hid (take_any HM1.out (by omega))
 go_wp2_with fail
 refine HTK.out.mono ?_; rintro x w3 ⟨nv, ov, cv, hnv, rfl, hm3, hl3⟩
 obtain rfl : mk.next = nv := tv_inj hnv
 replace hm3 : MkE X1 most pb w3 { mk with next := mk.next + 1 } := hm3
 have h93 := H9.out.later hl3
 have hl13 := HL1.out.trans hl3
 obtain ⟨d0', d1', d2', y0', y1', y2'⟩ := box_cells3 h93.1
 clear a0 a1 a2 a3 a4 a5 a6 a7 a8 v0 v1 v2 v3 v4 v5 v6 v7 v8 d0 d1 d2 y0 y1 y2
 have HM3 := hid hm3
 have HL3 := hid hl13
 have H93 := hid h93
 have H43 := hid (H41.out.later hl3)
 clear hm3 hl3 h93 hl13 hnv HTK
 unfold tyv
 go_upto_region 5 with fail
 clear d0' d1' d2' y0' y1' y2'
 obtain ⟨W4, hW4⟩ : ∃ W4, W4 = put3 w3 D (.int .i64 1) (.int .i64 mk.next) (.slice ov 0 cv) := ⟨_, rfl⟩
 change Code.wp _ _ _ _ (put3 w3 D (.int .i64 1) (.int .i64 mk.next) (.slice ov 0 cv))
 have hf4 := put3_fr w3 D (.int .i64 1) (.int .i64 mk.next) (.slice ov 0 cv)
 have hb4 : (put3 w3 D (.int .i64 1) (.int .i64 mk.next) (.slice ov 0 cv)).heap[D]? = _ := box_set2 (u := .slice ov 0 cv) (box_set1 (u := .int .i64 mk.next) (box_set0 (u := .int .i64 1) H93.out.1))
 rw [<- hW4] at hf4 hb4 ⊢
 clear hW4
 have HM4 := hid (HM3.out.put (hf4.mono (fun i _ e => by rw [HX1.out]; exact Or.inr e)))
 have HL4 := hid (HL3.out.put hf4 HPW.out (fun i hi => by have := HB0.out; omega))
 have HD4 : Hid (Bx pb W4 D #[.int .i64 1, .int .i64 mk.next, .slice ov 0 cv] 24) := ⟨hb4, HM4.out.far (by rw [HX1.out]; exact Or.inr rfl)⟩
 have HT4 : Hid (Bx pb W4 B (cells9 h o1 l1 c1 (some ⟨b9, off9, none⟩) l2 c2) 29) := by
  have hne : ¬ B = D := by have := HB1.out; omega
  have hb := blk_fr hf4 (fun e => hne e) H43.out.1
  exact ⟨hb, fun e => H43.out.2 (e.imp id (fun e => by unfold Rw at e ⊢; rwa [hf4.cellb HM3.out.lt (fun e => by have k := HM4.out.far (i := D) (by rw [HX1.out]; exact Or.inr rfl); exact k (Or.inl e.symm))] at e))⟩
 have HSS : Hid (∀ W, Later pb W4 W -> (W.cell? ⟨B, 0, none⟩ = some (.int .i64 h.k) /\ W.cell? ⟨B, 1, none⟩ = some (.string h.nm) /\ W.cell? ⟨B, 2, none⟩ = some (.int .i64 h.n) /\ W.cell? ⟨B, 3, none⟩ = some (.int .i64 h.tk) /\ W.cell? ⟨B, 4, none⟩ = some (.int .i64 h.tn) /\ W.cell? ⟨B, 5, none⟩ = some (.slice o1 l1 c1) /\ W.cell? ⟨B, 6, none⟩ = some (.slice (some ⟨b9, off9, none⟩) l2 c2) /\ W.cell? ⟨B, 7, none⟩ = some (.int .i64 h.fr) /\ W.cell? ⟨B, 8, none⟩ = some (.int .i64 h.en)) /\ (W.cell? ⟨D, 0, none⟩ = some (.int .i64 1) /\ W.cell? ⟨D, 1, none⟩ = some (.int .i64 mk.next) /\ W.cell? ⟨D, 2, none⟩ = some (.slice ov 0 cv)) /\ (W.cell? ⟨b9, off9, none⟩ = some (.int .i64 u.k) /\ W.cell? ⟨b9, off9 + 1, none⟩ = some (.string u.nm) /\ W.cell? ⟨b9, off9 + 2, none⟩ = some (.int .i64 u.n) /\ W.cell? ⟨b9, off9 + 3, none⟩ = some (.int .i64 u.tk) /\ W.cell? ⟨b9, off9 + 4, none⟩ = some (.int .i64 u.tn) /\ W.cell? ⟨b9, off9 + 5, none⟩ = some (.slice p1u m1u d1u) /\ W.cell? ⟨b9, off9 + 6, none⟩ = some (.slice p2u m2u d2u) /\ W.cell? ⟨b9, off9 + 7, none⟩ = some (.int .i64 u.fr) /\ W.cell? ⟨b9, off9 + 8, none⟩ = some (.int .i64 u.en))) := fun W' hl => by
  obtain ⟨k0, k1, k2, _⟩ := box_cells3 (HD4.out.later hl).1
  exact ⟨cells9_block (HT4.out.later hl).1, ⟨k0, k1, k2⟩, cells_later HCU.out HB9.out HM.out (HL4.out.trans hl)⟩
 have hpb := HM4.out.lt
 have HSG : Hid (∀ W X2, MkE X2 most pb W { mk with next := mk.next + 1 } -> Calls Tryz.prog 69 #[.agg #[.int .i64 1, .int .i64 mk.next, .slice ov 0 cv]] W (SgQ most pb (mk.next + 1) W (pu (tv mk.next)))) := fun W X2 hm => single_any hm
 have HWT : Hid (∀ W X2 bs ls, Later pb W4 W -> MkE X2 most pb W { mk with next := mk.next + 1 } -> MeanT most pb (mk.next + 1) W (.func bs #[] ls) (pu (tv mk.next)) -> Calls Tryz.prog 68 #[.slice eo en ec, .string h.nm, .func bs #[] ls] W (WtQ most pb (mk.next + 1) W (en + 1) ((h.nm, .func bs #[] ls) :: e) ((h.nm, pu (tv mk.next)) :: E))) := fun W X2 bs ls hl hm hf => by
  have hl' := HL4.out.trans hl
  exact with2_any h.nm hm (HBF.out.later hl') (HE.out.later hl' (by omega)) HEC.out (by have := HZ.out; omega) hf (NM.pure _)
 have HTM : Hid (∀ W X2 o c bs ls, Later pb W4 W -> MkE X2 most pb W { mk with next := mk.next + 1 } -> en + 1 <= c -> PkE most pb (mk.next + 1) W o (en + 1) ((h.nm, .func bs #[] ls) :: e) ((h.nm, pu (tv mk.next)) :: E) -> Calls Tryz.prog 42 #[.pointer (some ⟨pb, 0, none⟩), tmv u p1u m1u d1u p2u m2u d2u, .slice o (en + 1) c] W (MkQ X2 most pb W rt)) := fun W X2 o c bs ls hl hm hc hpk => by
  have hl' := HL4.out.trans hl
  have k := IH.out 0 u qu HGU.out W R X2 most pb { mk with next := mk.next + 1 } p1u m1u d1u p2u m2u d2u o (en + 1) c _ _ (slcin_later HSU.out HR.out HM.out hl') (tslc_later HTU.out HR.out HM.out hl') HR.out hm HMO.out hpk.1 hc (by have := HZU.out; have := HZ.out; omega) hpk.2 HOU.out.1 HOU.out.2 HFU.out (by rw [HRT.out]; exact HRTN.out)
  rw [HRT.out] at k
  exact k
 unfold tmv at HTM
 obtain ⟨⟨a0, a1, a2, a3, a4, a5, a6, a7, a8⟩, ⟨g0, g1, g2⟩, ⟨v0, v1, v2, v3, v4, v5, v6, v7, v8⟩⟩ := HSS.out W4 (Later.refl hpb)
 clear hf4 hb4
 go_cut [10] (fun v wx => RecR X1 most pb W4 rt v wx)
 case first =>
  refine wp_region_held_drew (S := (fun (W : World) => (W.cell? ⟨B, 0, none⟩ = some (.int .i64 h.k) /\ W.cell? ⟨B, 1, none⟩ = some (.string h.nm) /\ W.cell? ⟨B, 2, none⟩ = some (.int .i64 h.n) /\ W.cell? ⟨B, 3, none⟩ = some (.int .i64 h.tk) /\ W.cell? ⟨B, 4, none⟩ = some (.int .i64 h.tn) /\ W.cell? ⟨B, 5, none⟩ = some (.slice o1 l1 c1) /\ W.cell? ⟨B, 6, none⟩ = some (.slice (some ⟨b9, off9, none⟩) l2 c2) /\ W.cell? ⟨B, 7, none⟩ = some (.int .i64 h.fr) /\ W.cell? ⟨B, 8, none⟩ = some (.int .i64 h.en)) /\ (W.cell? ⟨D, 0, none⟩ = some (.int .i64 1) /\ W.cell? ⟨D, 1, none⟩ = some (.int .i64 mk.next) /\ W.cell? ⟨D, 2, none⟩ = some (.slice ov 0 cv)) /\ (W.cell? ⟨b9, off9, none⟩ = some (.int .i64 u.k) /\ W.cell? ⟨b9, off9 + 1, none⟩ = some (.string u.nm) /\ W.cell? ⟨b9, off9 + 2, none⟩ = some (.int .i64 u.n) /\ W.cell? ⟨b9, off9 + 3, none⟩ = some (.int .i64 u.tk) /\ W.cell? ⟨b9, off9 + 4, none⟩ = some (.int .i64 u.tn) /\ W.cell? ⟨b9, off9 + 5, none⟩ = some (.slice p1u m1u d1u) /\ W.cell? ⟨b9, off9 + 6, none⟩ = some (.slice p2u m2u d2u) /\ W.cell? ⟨b9, off9 + 7, none⟩ = some (.int .i64 u.fr) /\ W.cell? ⟨b9, off9 + 8, none⟩ = some (.int .i64 u.en)))) (by kernel_rfl) ?hS0_1 (fun hHeld => ?_)
  case hS0_1 => exact HSS.out _ (Later.of_quiet (Quiet0.drew W4) hpb)
  have hmd := HM4.out.stay (Quiet0.drew W4)
  have hld := (Later.refl hpb).quiet (Quiet0.drew W4) hpb
  generalize W4.drew = wd at *
  refine Hd.take0 (v := ?v_2) (by kernel_rfl) (by kernel_rfl) (by kernel_rfl) (fun _ _ _ h => h) (Or.inl ⟨by rfl, ?hy_3⟩) (by assumption) ?rest_4
  case hy_3 => (intro w hSw; (try dsimp only at hSw); go_simp <;> with_reducible rfl)
  simp only [Act.put, List.setIfInBounds_toArray, List.set_cons_zero, List.set_cons_succ]
  refine Hd.take1 (v := ?v_5) (by kernel_rfl) (by kernel_rfl) (by kernel_rfl) (fun _ _ _ h => h) (Or.inl ⟨by rfl, ?hy_6⟩) (by assumption) ?rest_7
  case hy_6 => (intro w hSw; (try dsimp only at hSw); go_simp <;> with_reducible rfl)
  simp only [Act.put, List.setIfInBounds_toArray, List.set_cons_zero, List.set_cons_succ]
  refine Hd.take2 (v := ?v_8) (by kernel_rfl) (by kernel_rfl) (by kernel_rfl) (fun _ _ _ h => h) (Or.inl ⟨by rfl, ?hy_9⟩) (by assumption) ?rest_10
  case hy_9 => (intro w hSw; (try dsimp only at hSw); go_simp <;> with_reducible rfl)
  simp only [Act.put, List.setIfInBounds_toArray, List.set_cons_zero, List.set_cons_succ]
  refine Hd.take3 (v := ?v_11) (by kernel_rfl) (by kernel_rfl) (by kernel_rfl) (fun _ _ _ h => h) (Or.inl ⟨by rfl, ?hy_12⟩) (by assumption) ?rest_13
  case hy_12 => (intro w hSw; (try dsimp only at hSw); go_simp <;> with_reducible rfl)
  simp only [Act.put, List.setIfInBounds_toArray, List.set_cons_zero, List.set_cons_succ]
  refine Hd.take4 (v := ?v_14) (by kernel_rfl) (by kernel_rfl) (by kernel_rfl) (fun _ _ _ h => h) (Or.inl ⟨by rfl, ?hy_15⟩) (by assumption) ?rest_16
  case hy_15 => (intro w hSw; (try dsimp only at hSw); go_simp <;> with_reducible rfl)
  simp only [Act.put, List.setIfInBounds_toArray, List.set_cons_zero, List.set_cons_succ]
  refine Hd.take5 (v := ?v_17) (by kernel_rfl) (by kernel_rfl) (by kernel_rfl) (fun _ _ _ h => h) (Or.inl ⟨by rfl, ?hy_18⟩) (by assumption) ?rest_19
  case hy_18 => (intro w hSw; (try dsimp only at hSw); go_simp <;> with_reducible rfl)
  simp only [Act.put, List.setIfInBounds_toArray, List.set_cons_zero, List.set_cons_succ]
  refine Hd.take6 (v := ?v_20) (by kernel_rfl) (by kernel_rfl) (by kernel_rfl) (fun _ _ _ h => h) (Or.inl ⟨by rfl, ?hy_21⟩) (by assumption) ?rest_22
  case hy_21 => (intro w hSw; (try dsimp only at hSw); go_simp <;> with_reducible rfl)
  simp only [Act.put, List.setIfInBounds_toArray, List.set_cons_zero, List.set_cons_succ]
  refine Hd.take7 (v := ?v_23) (by kernel_rfl) (by kernel_rfl) (by kernel_rfl) (fun _ _ _ h => h) (Or.inl ⟨by rfl, ?hy_24⟩) (by assumption) ?rest_25
  case hy_24 => (intro w hSw; (try dsimp only at hSw); go_simp <;> with_reducible rfl)
  simp only [Act.put, List.setIfInBounds_toArray, List.set_cons_zero, List.set_cons_succ]
  refine Hd.take8 (v := ?v_26) (by kernel_rfl) (by kernel_rfl) (by kernel_rfl) (fun _ _ _ h => h) (Or.inl ⟨by rfl, ?hy_27⟩) (by assumption) ?rest_28
  case hy_27 => (intro w hSw; (try dsimp only at hSw); go_simp <;> with_reducible rfl)
  simp only [Act.put, List.setIfInBounds_toArray, List.set_cons_zero, List.set_cons_succ]
  refine wpAnyH_ready (rs := [9, 12]) (by kernel_rfl) (by simp) ?_
  refine Hd.cons9 (fun K hK => ?_) ?_
  ·go_simp
   go_at_call 69
   (with_reducible refine Calls.mono (HSG.out _ _ hmd) ?_)
   rintro x wx0 ⟨bs, ls, rfl, hme, hqx⟩
   have hmx0 := hmd.stay hqx
   have hlx0 := hld.quiet hqx hpb
   refine hK.out _ _ ?hS_29 (fun hHeld => ?_)
   case hS_29 => exact HSS.out _ hlx0
   clear hK K
   (try simp only [Act.put, List.setIfInBounds_toArray, List.set_cons_zero, List.set_cons_succ])
   refine wpAnyH_ready (rs := [10, 12]) (by kernel_rfl) (by simp) ?_
   refine Hd.cons10 (fun K hK => ?_) ?_
   ·go_simp
    go_at_call 68
    (with_reducible refine Calls.mono (HWT.out _ _ bs ls hlx0 hmx0 hme) ?_)
    rintro x wx1 ⟨wo, wc, rfl, hwc, hpk, hqx⟩
    have hmx1 := hmx0.stay hqx
    have hlx1 := hlx0.quiet hqx hpb
    refine hK.out _ _ ?hS_30 (fun hHeld => ?_)
    case hS_30 => exact HSS.out _ hlx1
    clear hK K
    (try simp only [Act.put, List.setIfInBounds_toArray, List.set_cons_zero, List.set_cons_succ])
    refine wpAnyH_ready (rs := [11, 12]) (by kernel_rfl) (by simp) ?_
    refine Hd.cons11 (fun K hK => ?_) ?_
    ·go_simp
     go_at_call 42
     (with_reducible refine Calls.mono (HTM.out _ _ wo wc bs ls hlx1 hmx1 hwc hpk) ?_)
     rintro x wx2 ⟨n9, o9, c9, hr9, rfl, hmx2, hlq⟩
     unfold tyv
     have hlx2 := hlx1.trans hlq
     refine hK.out _ _ ?hS_31 (fun hHeld => ?_)
     case hS_31 => exact HSS.out _ hlx2
     clear hK K
     (try simp only [Act.put, List.setIfInBounds_toArray, List.set_cons_zero, List.set_cons_succ])
     refine wpAnyH_ready (rs := [12]) (by kernel_rfl) (by simp) ?_
     refine Hd.cons12 (fun K hK => ?_) ?_
     ·go_simp
      obtain ⟨wa, hwa⟩ : ∃ wa, wa = wx2.alloc (.cells #[.int .i64 0, .int .i64 0, .slice none 0 0] 24) := ⟨_, rfl⟩
      have hqa : Quiet0 wx2 wa := by rw [hwa]; exact Quiet0.alloc _ _
      have hbF : Bx pb wa wx2.heap.size #[.int .i64 0, .int .i64 0, .slice none 0 0] 24 := Bx.new hmx2 hqa (Nat.le_refl _) (by rw [hwa]; exact heap_alloc_new wx2 _)
      have hma := hmx2.more hqa (fun i => i = wx2.heap.size) (fun i hi => by subst hi; exact ⟨Nat.le_refl _, by rw [hwa]; simp⟩)
      have hla := hlx2.quiet hqa hpb
      have hgF : W4.heap.size <= wx2.heap.size := (hlx2).size
      rw [<- hwa]
      clear hwa
      generalize wx2.heap.size = F at *
      refine hK.out _ _ ?hS_32 (fun hHeld => ?_)
      case hS_32 => exact HSS.out _ hla
      clear hK K
      (try simp only [Act.put, List.setIfInBounds_toArray, List.set_cons_zero, List.set_cons_succ])
      refine wpAnyH_ready (rs := [13]) (by kernel_rfl) (by simp) ?_
      refine Hd.cons13 (fun K hK => ?_) ?_
      ·obtain ⟨z0, z1, z2, y0, y1, y2⟩ := box_cells3 hbF.1
       go_simp
       have hfF := put3_fr wa F (.int .i64 1) (.int .i64 n9) (.slice o9 0 c9)
       have hbG : (put3 wa F (.int .i64 1) (.int .i64 n9) (.slice o9 0 c9)).heap[F]? = _ := box_set2 (u := .slice o9 0 c9) (box_set1 (u := .int .i64 n9) (box_set0 (u := .int .i64 1) hbF.1))
       change K _ (put3 wa F (.int .i64 1) (.int .i64 n9) (.slice o9 0 c9))
       generalize put3 wa F (.int .i64 1) (.int .i64 n9) (.slice o9 0 c9) = wf at *
       have hmf := hma.put (hfF.mono (fun i _ e => Or.inr e))
       have hlf := hla.put hfF hpb (fun i hi => by omega)
       refine hK.out _ _ ?hS_33 (fun hHeld => ?_)
       case hS_33 => exact HSS.out _ hlf
       clear hK K
       (try simp only [Act.put, List.setIfInBounds_toArray, List.set_cons_zero, List.set_cons_succ])
       refine wpAnyH_done (by kernel_rfl) ?_ _
       go_wp2_with fail
       go_meet
       exact ⟨F, n9, o9, c9, rfl, hr9, ⟨hbG, hmf.far (Or.inr rfl)⟩, hmf.less (fun i hi => Or.inl hi), hlf⟩
      exact AllReadyH.nil
     exact AllReadyH.nil
    refine Hd.cons12 (fun K hK => ?_) ?_
    ·go_simp
     obtain ⟨wa, hwa⟩ : ∃ wa, wa = wx1.alloc (.cells #[.int .i64 0, .int .i64 0, .slice none 0 0] 24) := ⟨_, rfl⟩
     have hqa : Quiet0 wx1 wa := by rw [hwa]; exact Quiet0.alloc _ _
     have hbF : Bx pb wa wx1.heap.size #[.int .i64 0, .int .i64 0, .slice none 0 0] 24 := Bx.new hmx1 hqa (Nat.le_refl _) (by rw [hwa]; exact heap_alloc_new wx1 _)
     have hma := hmx1.more hqa (fun i => i = wx1.heap.size) (fun i hi => by subst hi; exact ⟨Nat.le_refl _, by rw [hwa]; simp⟩)
     have hla := hlx1.quiet hqa hpb
     have hgF : W4.heap.size <= wx1.heap.size := (hlx1).size
     rw [<- hwa]
     clear hwa
     generalize wx1.heap.size = F at *
     refine hK.out _ _ ?hS_34 (fun hHeld => ?_)
     case hS_34 => exact HSS.out _ hla
     clear hK K
     (try simp only [Act.put, List.setIfInBounds_toArray, List.set_cons_zero, List.set_cons_succ])
     have hpk := PkE.st hmx1 hqa hpk
     refine wpAnyH_ready (rs := [11]) (by kernel_rfl) (by simp) ?_
     refine Hd.cons11 (fun K hK => ?_) ?_
     ·go_simp
      go_at_call 42
      (with_reducible refine Calls.mono (HTM.out _ _ wo wc bs ls hla hma hwc hpk) ?_)
      rintro x wx2 ⟨n9, o9, c9, hr9, rfl, hmx2, hlq⟩
      unfold tyv
      have hbF := hbF.later hlq
      have hlx2 := hla.trans hlq
      refine hK.out _ _ ?hS_35 (fun hHeld => ?_)
      case hS_35 => exact HSS.out _ hlx2
      clear hK K
      (try simp only [Act.put, List.setIfInBounds_toArray, List.set_cons_zero, List.set_cons_succ])
      refine wpAnyH_ready (rs := [13]) (by kernel_rfl) (by simp) ?_
      refine Hd.cons13 (fun K hK => ?_) ?_
      ·obtain ⟨z0, z1, z2, y0, y1, y2⟩ := box_cells3 hbF.1
       go_simp
       have hfF := put3_fr wx2 F (.int .i64 1) (.int .i64 n9) (.slice o9 0 c9)
       have hbG : (put3 wx2 F (.int .i64 1) (.int .i64 n9) (.slice o9 0 c9)).heap[F]? = _ := box_set2 (u := .slice o9 0 c9) (box_set1 (u := .int .i64 n9) (box_set0 (u := .int .i64 1) hbF.1))
       change K _ (put3 wx2 F (.int .i64 1) (.int .i64 n9) (.slice o9 0 c9))
       generalize put3 wx2 F (.int .i64 1) (.int .i64 n9) (.slice o9 0 c9) = wf at *
       have hmf := hmx2.put (hfF.mono (fun i _ e => Or.inr e))
       have hlf := hlx2.put hfF hpb (fun i hi => by omega)
       refine hK.out _ _ ?hS_36 (fun hHeld => ?_)
       case hS_36 => exact HSS.out _ hlf
       clear hK K
       (try simp only [Act.put, List.setIfInBounds_toArray, List.set_cons_zero, List.set_cons_succ])
       refine wpAnyH_done (by kernel_rfl) ?_ _
       go_wp2_with fail
       go_meet
       exact ⟨F, n9, o9, c9, rfl, hr9, ⟨hbG, hmf.far (Or.inr rfl)⟩, hmf.less (fun i hi => Or.inl hi), hlf⟩
      exact AllReadyH.nil
     exact AllReadyH.nil
    exact AllReadyH.nil
   refine Hd.cons12 (fun K hK => ?_) ?_
   ·go_simp
    obtain ⟨wa, hwa⟩ : ∃ wa, wa = wx0.alloc (.cells #[.int .i64 0, .int .i64 0, .slice none 0 0] 24) := ⟨_, rfl⟩
    have hqa : Quiet0 wx0 wa := by rw [hwa]; exact Quiet0.alloc _ _
    have hbF : Bx pb wa wx0.heap.size #[.int .i64 0, .int .i64 0, .slice none 0 0] 24 := Bx.new hmx0 hqa (Nat.le_refl _) (by rw [hwa]; exact heap_alloc_new wx0 _)
    have hma := hmx0.more hqa (fun i => i = wx0.heap.size) (fun i hi => by subst hi; exact ⟨Nat.le_refl _, by rw [hwa]; simp⟩)
    have hla := hlx0.quiet hqa hpb
    have hgF : W4.heap.size <= wx0.heap.size := (hlx0).size
    rw [<- hwa]
    clear hwa
    generalize wx0.heap.size = F at *
    refine hK.out _ _ ?hS_37 (fun hHeld => ?_)
    case hS_37 => exact HSS.out _ hla
    clear hK K
    (try simp only [Act.put, List.setIfInBounds_toArray, List.set_cons_zero, List.set_cons_succ])
    have hme := MeanT.st hmx0 hqa hme
    refine wpAnyH_ready (rs := [10]) (by kernel_rfl) (by simp) ?_
    refine Hd.cons10 (fun K hK => ?_) ?_
    ·go_simp
     go_at_call 68
     (with_reducible refine Calls.mono (HWT.out _ _ bs ls hla hma hme) ?_)
     rintro x wx1 ⟨wo, wc, rfl, hwc, hpk, hqx⟩
     have hmx1 := hma.stay hqx
     have hlx1 := hla.quiet hqx hpb
     have hbF := hbF.later (Later.of_quiet hqx hma.lt)
     refine hK.out _ _ ?hS_38 (fun hHeld => ?_)
     case hS_38 => exact HSS.out _ hlx1
     clear hK K
     (try simp only [Act.put, List.setIfInBounds_toArray, List.set_cons_zero, List.set_cons_succ])
     refine wpAnyH_ready (rs := [11]) (by kernel_rfl) (by simp) ?_
     refine Hd.cons11 (fun K hK => ?_) ?_
     ·go_simp
      go_at_call 42
      (with_reducible refine Calls.mono (HTM.out _ _ wo wc bs ls hlx1 hmx1 hwc hpk) ?_)
      rintro x wx2 ⟨n9, o9, c9, hr9, rfl, hmx2, hlq⟩
      unfold tyv
      have hbF := hbF.later hlq
      have hlx2 := hlx1.trans hlq
      refine hK.out _ _ ?hS_39 (fun hHeld => ?_)
      case hS_39 => exact HSS.out _ hlx2
      clear hK K
      (try simp only [Act.put, List.setIfInBounds_toArray, List.set_cons_zero, List.set_cons_succ])
      refine wpAnyH_ready (rs := [13]) (by kernel_rfl) (by simp) ?_
      refine Hd.cons13 (fun K hK => ?_) ?_
      ·obtain ⟨z0, z1, z2, y0, y1, y2⟩ := box_cells3 hbF.1
       go_simp
       have hfF := put3_fr wx2 F (.int .i64 1) (.int .i64 n9) (.slice o9 0 c9)
       have hbG : (put3 wx2 F (.int .i64 1) (.int .i64 n9) (.slice o9 0 c9)).heap[F]? = _ := box_set2 (u := .slice o9 0 c9) (box_set1 (u := .int .i64 n9) (box_set0 (u := .int .i64 1) hbF.1))
       change K _ (put3 wx2 F (.int .i64 1) (.int .i64 n9) (.slice o9 0 c9))
       generalize put3 wx2 F (.int .i64 1) (.int .i64 n9) (.slice o9 0 c9) = wf at *
       have hmf := hmx2.put (hfF.mono (fun i _ e => Or.inr e))
       have hlf := hlx2.put hfF hpb (fun i hi => by omega)
       refine hK.out _ _ ?hS_40 (fun hHeld => ?_)
       case hS_40 => exact HSS.out _ hlf
       clear hK K
       (try simp only [Act.put, List.setIfInBounds_toArray, List.set_cons_zero, List.set_cons_succ])
       refine wpAnyH_done (by kernel_rfl) ?_ _
       go_wp2_with fail
       go_meet
       exact ⟨F, n9, o9, c9, rfl, hr9, ⟨hbG, hmf.far (Or.inr rfl)⟩, hmf.less (fun i hi => Or.inl hi), hlf⟩
      exact AllReadyH.nil
     exact AllReadyH.nil
    exact AllReadyH.nil
   exact AllReadyH.nil
  refine Hd.cons12 (fun K hK => ?_) ?_
  ·go_simp
   obtain ⟨wa, hwa⟩ : ∃ wa, wa = wd.alloc (.cells #[.int .i64 0, .int .i64 0, .slice none 0 0] 24) := ⟨_, rfl⟩
   have hqa : Quiet0 wd wa := by rw [hwa]; exact Quiet0.alloc _ _
   have hbF : Bx pb wa wd.heap.size #[.int .i64 0, .int .i64 0, .slice none 0 0] 24 := Bx.new hmd hqa (Nat.le_refl _) (by rw [hwa]; exact heap_alloc_new wd _)
   have hma := hmd.more hqa (fun i => i = wd.heap.size) (fun i hi => by subst hi; exact ⟨Nat.le_refl _, by rw [hwa]; simp⟩)
   have hla := hld.quiet hqa hpb
   have hgF : W4.heap.size <= wd.heap.size := (hld).size
   rw [<- hwa]
   clear hwa
   generalize wd.heap.size = F at *
   refine hK.out _ _ ?hS_41 (fun hHeld => ?_)
   case hS_41 => exact HSS.out _ hla
   clear hK K
   (try simp only [Act.put, List.setIfInBounds_toArray, List.set_cons_zero, List.set_cons_succ])
   refine wpAnyH_ready (rs := [9]) (by kernel_rfl) (by simp) ?_
   refine Hd.cons9 (fun K hK => ?_) ?_
   ·go_simp
    go_at_call 69
    (with_reducible refine Calls.mono (HSG.out _ _ hma) ?_)
    rintro x wx0 ⟨bs, ls, rfl, hme, hqx⟩
    have hmx0 := hma.stay hqx
    have hlx0 := hla.quiet hqx hpb
    have hbF := hbF.later (Later.of_quiet hqx hma.lt)
    refine hK.out _ _ ?hS_42 (fun hHeld => ?_)
    case hS_42 => exact HSS.out _ hlx0
    clear hK K
    (try simp only [Act.put, List.setIfInBounds_toArray, List.set_cons_zero, List.set_cons_succ])
    refine wpAnyH_ready (rs := [10]) (by kernel_rfl) (by simp) ?_
    refine Hd.cons10 (fun K hK => ?_) ?_
    ·go_simp
     go_at_call 68
     (with_reducible refine Calls.mono (HWT.out _ _ bs ls hlx0 hmx0 hme) ?_)
     rintro x wx1 ⟨wo, wc, rfl, hwc, hpk, hqx⟩
     have hmx1 := hmx0.stay hqx
     have hlx1 := hlx0.quiet hqx hpb
     have hbF := hbF.later (Later.of_quiet hqx hmx0.lt)
     refine hK.out _ _ ?hS_43 (fun hHeld => ?_)
     case hS_43 => exact HSS.out _ hlx1
     clear hK K
     (try simp only [Act.put, List.setIfInBounds_toArray, List.set_cons_zero, List.set_cons_succ])
     refine wpAnyH_ready (rs := [11]) (by kernel_rfl) (by simp) ?_
     refine Hd.cons11 (fun K hK => ?_) ?_
     ·go_simp
      go_at_call 42
      (with_reducible refine Calls.mono (HTM.out _ _ wo wc bs ls hlx1 hmx1 hwc hpk) ?_)
      rintro x wx2 ⟨n9, o9, c9, hr9, rfl, hmx2, hlq⟩
      unfold tyv
      have hbF := hbF.later hlq
      have hlx2 := hlx1.trans hlq
      refine hK.out _ _ ?hS_44 (fun hHeld => ?_)
      case hS_44 => exact HSS.out _ hlx2
      clear hK K
      (try simp only [Act.put, List.setIfInBounds_toArray, List.set_cons_zero, List.set_cons_succ])
      refine wpAnyH_ready (rs := [13]) (by kernel_rfl) (by simp) ?_
      refine Hd.cons13 (fun K hK => ?_) ?_
      ·obtain ⟨z0, z1, z2, y0, y1, y2⟩ := box_cells3 hbF.1
       go_simp
       have hfF := put3_fr wx2 F (.int .i64 1) (.int .i64 n9) (.slice o9 0 c9)
       have hbG : (put3 wx2 F (.int .i64 1) (.int .i64 n9) (.slice o9 0 c9)).heap[F]? = _ := box_set2 (u := .slice o9 0 c9) (box_set1 (u := .int .i64 n9) (box_set0 (u := .int .i64 1) hbF.1))
       change K _ (put3 wx2 F (.int .i64 1) (.int .i64 n9) (.slice o9 0 c9))
       generalize put3 wx2 F (.int .i64 1) (.int .i64 n9) (.slice o9 0 c9) = wf at *
       have hmf := hmx2.put (hfF.mono (fun i _ e => Or.inr e))
       have hlf := hlx2.put hfF hpb (fun i hi => by omega)
       refine hK.out _ _ ?hS_45 (fun hHeld => ?_)
       case hS_45 => exact HSS.out _ hlf
       clear hK K
       (try simp only [Act.put, List.setIfInBounds_toArray, List.set_cons_zero, List.set_cons_succ])
       refine wpAnyH_done (by kernel_rfl) ?_ _
       go_wp2_with fail
       go_meet
       exact ⟨F, n9, o9, c9, rfl, hr9, ⟨hbG, hmf.far (Or.inr rfl)⟩, hmf.less (fun i hi => Or.inl hi), hlf⟩
      exact AllReadyH.nil
     exact AllReadyH.nil
    exact AllReadyH.nil
   exact AllReadyH.nil
  exact AllReadyH.nil
 case rest =>
  rename World => w5
  obtain ⟨F, n9, o9, c9, rfl, hr9, hbF, hm5, hl5⟩ := hcut
  have HM5a := hid hm5
  have HL5a := hid hl5
  clear a0 a1 a2 a3 a4 a5 a6 a7 a8 g0 g1 g2 v0 v1 v2 v3 v4 v5 v6 v7 v8
  obtain ⟨⟨a0, a1, a2, a3, a4, a5, a6, a7, a8⟩, ⟨g0, g1, g2⟩, _⟩ := HSS.out w5 hl5
  obtain ⟨z0, z1, z2, _, _, _⟩ := box_cells3 hbF.1
  have HEQ : Hid (Calls Tryz.prog 66 #[.pointer (some ⟨pb, 0, none⟩), .agg #[.int .i64 1, .int .i64 mk.next, .slice ov 0 cv], .agg #[.int .i64 1, .int .i64 n9, .slice o9 0 c9], .agg #[.int .i64 h.fr, .int .i64 h.en]] w5 (MkU X1 most pb w5 res.2)) := by
   have k := equate_any (o1 := ov) (l1 := 0) (c1 := cv) (o2 := o9) (l2 := 0) (c2 := c9) HM5a.out HMO.out (tv mk.next) (tv n9) h.fr h.en (SlcIn.nil _ _ _) (SlcIn.nil _ _ _) (Nat.le_of_ble_eq_true rfl) (Nat.le_of_ble_eq_true rfl)
   rw [show (eqP most (tv mk.next) (tv n9) h.fr h.en rt.2).2 = res.2 from by rw [<- HEQR.out, hr9]] at k
   exact k
  clear hm5 hl5 hbF
  go_wp2_with fail
  refine HEQ.out.mono ?_; rintro x W5 ⟨rfl, hm5, hl5⟩
  have HM5 := hid hm5
  have HL5 := hid (HL4.out.trans (HL5a.out.trans hl5))
  obtain ⟨f0, f1, f2, _⟩ := box_cells3 (HD4.out.later (HL5a.out.trans hl5)).1
  clear hm5 hl5 a0 a1 a2 a3 a4 a5 a6 a7 a8 g0 g1 g2 z0 z1 z2
  have HNV : Hid (res.1 = tv mk.next) := by show _ = _; rw [<- HEQR.out]
  obtain ⟨o5, c5, xs5, hmk5⟩ := HM5.out
  obtain ⟨q0, q1, q2, q3⟩ := mk_cells hmk5.box
  obtain ⟨ln, hln⟩ : ∃ ln, res.2.eqs.length = ln := ⟨_, rfl⟩
  have hle : start <= ln := by have := HMON.out.2; rw [HST.out, hln] at this; exact this
  have hform := hmk5.form
  have hlz : ln <= 4096 := by have := hmk5.few; omega
  have hsml := hmk5.small
  rw [hln] at q0 hform
  have HLN := hid hln
  have hs0 : (0 : Int) <= start := by omega
  have hs1 : (start : Int) <= ln := by omega
  have hs2 : (ln : Int) <= ln := Int.le_refl _
  have hs3 : IntKind.i64.wrap ((ln : Int) - start) = ((ln - start : Nat) : Int) := by rw [IntWalk.i64_in _ (by omega)]; omega
  have hkd : (res.2.eqs.drop start).length = ln - start /\ ∀ t ∈ res.2.eqs.drop start, t.1.2.2.size <= 100000 /\ t.2.1.2.2.size <= 100000 := by
   exact ⟨by rw [List.length_drop, HLN.out], fun t ht => hsml t (List.mem_of_mem_drop ht)⟩
  have HMK5 := hid hmk5
  have HNIL : Hid (ln = start -> ∀ ko, KeptAt pb W5 ko (res.2.eqs.drop start)) := fun he ko => .inl (List.eq_nil_of_length_eq_zero (by rw [List.length_drop, HLN.out]; omega))
  have HCP : Hid (∀ ko, KeptAt pb W5 ko (res.2.eqs.drop start) -> Calls Tryz.prog 99 #[.slice ko (ln - start) (ln - start), .agg #[.int .i64 1, .int .i64 mk.next, .slice ov 0 cv], .int .i64 mk.next, .int .i64 res.2.next] W5.drew fun x w' => ∃ bs ls, x = .returned (.func bs #[] ls) /\ MeanT most pb res.2.next w' (.func bs #[] ls) (copied most (res.2.eqs.drop start) (tv mk.next) mk.next res.2.next) /\ Quiet0 W5.drew w') := fun ko hk => by
   have hl := Later.of_quiet (Quiet0.drew W5) HM5.out.lt
   have k := copied_any (lo := res.2.next) (HM5.out.stay (Quiet0.drew W5)) HMO.out mk.next mk.next res.2.next (res.2.eqs.drop start) ko (ln - start) ov cv (hk.later hl) (by rw [hkd.1]; omega) hkd.2 HMON.out.1 (Nat.le_refl _)
   rw [hkd.1] at k
   exact k
  unfold tyv at HCP
  have HRV : Hid (res.1 = tv mk.next) := HNV.out
  clear hmk5 hln hkd hsml
  go_upto_region 8 with fail
  rcases hform with ⟨h1, h2, h3⟩ | ⟨g, h1, _, _, h4⟩
  ·subst h1
   subst h2
   subst h3
   obtain rfl : start = 0 := by omega
   have HCQ := hid (HCP.out none (HNIL.out rfl none))
   refine wp_region_still_tail 22 (by kernel_rfl) (by kernel_rfl) ?_
   simp only [List.take_succ_cons, List.take_zero, List.drop_succ_cons, List.drop_zero]
   change wpStill _ _ (World.drew W5) _ _ _
   repeat still_step
   refine wpStill_nil ?_
   change wpList _ _ _ _ _ (World.drew W5)
   go_wp2_with fail
   refine HCQ.out.mono ?_; rintro x w6 ⟨bs, ls, rfl, hme, hq6⟩
   go_wp2_with fail
   go_ret
   have hq5 := (Quiet0.drew W5).trans hq6
   exact ⟨bs, ls, rfl, by rw [HST.out, HRV.out]; exact hme, (HM5.out.stay hq5).less (fun i hi => by rw [HX1.out]; exact Or.inl hi), HL5.out.quiet hq5 HPW.out⟩
  ·subst h1
   have hs4 : (ln : Int) <= c5 := by omega
   by_cases hls : ln = start
   ·subst hls
    have HCQ := hid (HCP.out (some ⟨g, 0, none⟩) (HNIL.out rfl _))
    simp only [Nat.sub_self] at HCQ hs3
    refine wp_region_still_tail 22 (by kernel_rfl) (by kernel_rfl) ?_
    simp only [List.take_succ_cons, List.take_zero, List.drop_succ_cons, List.drop_zero]
    change wpStill _ _ (World.drew W5) _ _ _
    repeat still_step
    refine wpStill_nil ?_
    change wpList _ _ _ _ _ (World.drew W5)
    go_wp2_with fail
    refine HCQ.out.mono ?_; rintro x w6 ⟨bs, ls, rfl, hme, hq6⟩
    go_wp2_with fail
    go_ret
    have hq5 := (Quiet0.drew W5).trans hq6
    exact ⟨bs, ls, rfl, by rw [HST.out, HRV.out]; exact hme, (HM5.out.stay hq5).less (fun i hi => by rw [HX1.out]; exact Or.inl hi), HL5.out.quiet hq5 HPW.out⟩
   ·have hne1 : ¬ (ln - start = 0) := by omega
    have hne2 : ¬ (ln <= start) := by omega
    have hne3 : start < ln := by omega
    have hne4 : 0 < ln - start := by omega
    have HCQ := hid (HCP.out (some ⟨g, start * 8, none⟩) (kept_of HMK5.out start))
    refine wp_region_still_tail 22 (by kernel_rfl) (by kernel_rfl) ?_
    simp only [List.take_succ_cons, List.take_zero, List.drop_succ_cons, List.drop_zero]
    change wpStill _ _ (World.drew W5) _ _ _
    repeat still_step
    refine wpStill_nil ?_
    change wpList _ _ _ _ _ (World.drew W5)
    go_wp2_with fail
    refine HCQ.out.mono ?_; rintro x w6 ⟨bs, ls, rfl, hme, hq6⟩
    go_wp2_with fail
    go_ret
    have hq5 := (Quiet0.drew W5).trans hq6
    exact ⟨bs, ls, rfl, by rw [HST.out, HRV.out]; exact hme, (HM5.out.stay hq5).less (fun i hi => by rw [HX1.out]; exact Or.inl hi), HL5.out.quiet hq5 HPW.out⟩
end Em
end
section
open Go.RowKit
namespace Em
theorem term_let (h : Nd) (ps : To) (ih : ∀ i g qs, ps.get i = some (g, qs) -> TmT g qs) (hk : h.k = 6) : TmN h ps := by
 intro W R X most pb mk o1 l1 c1 o2 l2 c2 eo en ec e E hs1 hs2 hR hm hmost hb hec hz hE hok hokl hfr hN hmany
 obtain ⟨W0, hW0⟩ : ∃ W0, W0 = (W.alloc (.cells (cells9 h o1 l1 c1 o2 l2 c2) 29)).alloc (.cells #[.int .i64 0, .int .i64 0, .slice none 0 0] 24) := ⟨_, rfl⟩
 have hq0 : Quiet0 W W0 := by rw [hW0]; exact (Quiet0.alloc _ _).trans (Quiet0.alloc _ _)
 have hz0 : W0.heap.size = W.heap.size + 2 := by rw [hW0]; simp
 have h4 : Bx pb W0 W.heap.size (cells9 h o1 l1 c1 o2 l2 c2) 29 := Bx.new hm hq0 (Nat.le_refl _) (by rw [hW0]; exact blk_after (Quiet0.alloc _ _) (heap_alloc_new W _))
 have h6 : Bx pb W0 (W.heap.size + 1) #[.int .i64 0, .int .i64 0, .slice none 0 0] 24 := Bx.new hm hq0 (by omega) (by
  rw [hW0]
  have := heap_alloc_new (W.alloc (.cells (cells9 h o1 l1 c1 o2 l2 c2) 29)) (.cells #[.int .i64 0, .int .i64 0, .slice none 0 0] 24)
  simpa using this)
 have hm0 := hm.more hq0 (fun i => i = W.heap.size + 1) (fun i hi => by subst hi; omega)
 have hp := hm.lt
 have hl0 := Later.of_quiet hq0 hp
 have hnx := (termM_nm most h ps E hE.ne mk).1
 have hnb : mk.next <= 500000000 := Nat.le_trans hnx hN
 have HTK := hid (take_any hm0 (by omega))
 have HM := hid hm
 have HL0 := hid hl0
 have H4 := hid h4
 have H6 := hid h6
 have HP := hid hp
 have HS2 := hid hs2
 have HR := hid hR
 have HBF := hid hb
 have HE := hid hE
 have HOK := hid hok
 have HOKL := hid hokl
 have HFR := hid hfr
 have HNB : Hid ((termM most h ps E mk).2.next <= NBd) := hN
 have HMO := hid hmost
 have HK := hid hk
 have HGO := hid (term_go most h ps E mk hmany)
 have HM0P := hid hm0.lt
 have t2 : (h.k == 2) = false := by rw [hk]; rfl
 have t3 : (h.k == 3) = false := by rw [hk]; rfl
 have t1 : (h.k == 1) = false := by rw [hk]; rfl
 have t4 : (h.k == 4) = false := by rw [hk]; rfl
 have t6 : (h.k == 6) = true := by rw [hk]; rfl
 obtain ⟨X1, hX1⟩ : ∃ X1, X1 = (fun i => X i ∨ i = W.heap.size + 1) := ⟨_, rfl⟩
 have HX1 : Hid (∀ i, X1 i = (X i ∨ i = W.heap.size + 1)) := fun i => by rw [hX1]
 rw [<- hX1] at HTK
 clear hs1 hs2 hR hm hb hE hok hokl hfr hN hm0 hl0 hq0 h4 h6 hX1 hnx hk hp hz0 hmost
 have IH := hid ih
 clear ih
 have hl2 : 2 <= l2 := by rw [HS2.out.1]; exact HOK.out.2.2.2.1 HK.out
 have hi1 : (1 : Int) < l2 := by omega
 have hj1 : 1 < l2 := by omega
 obtain ⟨b9, off9, u, qu, p1u, m1u, d1u, p2u, m2u, d2u, e9, _, gu, ru, cu, su, tu⟩ := HS2.out.nth (i := 1) (by omega)
 subst e9
 have hb9 := HR.out b9 ru
 have HGU := hid gu
 have HSU := hid su
 have HTU := hid tu
 have HZU := hid (To.size_get ps 1 u qu gu)
 have HOU := hid (okTL_get ps 1 u qu HOKL.out gu)
 have HFU : Hid (Sc.free1 (h.nm :: names e) u qu = []) := by
  show _ = _
  have k := free_of HFR.out (by rw [HK.out]; decide) gu
  rwa [envOf_more _ _ (by rw [HK.out]; rfl)] at k
 obtain ⟨fm, hfm⟩ : ∃ fm, firstM most h (valsM most ps) E { mk with next := mk.next + 1 } = fm := ⟨_, rfl⟩
 obtain ⟨km, hkm⟩ : ∃ km, keptM most h (valsM most ps) E { mk with next := mk.next + 1 } = km := ⟨_, rfl⟩
 obtain ⟨res, hres⟩ : ∃ res, termM most u qu ((h.nm, km) :: E) fm.2 = res := ⟨_, rfl⟩
 obtain ⟨fin, hfin⟩ : ∃ fin, (eqP most (tv mk.next) res.1 h.fr h.en res.2).2 = fin := ⟨_, rfl⟩
 have HRES : Hid (termM most h ps E mk = (tv mk.next, fin)) := by show _ = _; rw [HGO.out, body_let (by rw [HK.out]; decide), vat_get HGU.out, hkm, hfm, hres, hfin]
 have HKN : Hid (NM km) := by show NM km; rw [<- hkm]; exact copied_nm _ _ _ _ _
 have HRN : Hid (res.2.next <= NBd) := by
  show _ <= _
  have k := HNB.out
  rw [HRES.out, <- hfin] at k
  simpa only [eqP_nx] using k
 have HFN : Hid (fm.2.next <= NBd) := by
  show _ <= _
  have k := (termM_nm most u qu ((h.nm, km) :: E) (HE.out.ne.cons HKN.out) fm.2).1
  rw [hres] at k
  exact Nat.le_trans k HRN.out
 have HFL : Hid (mk.next <= fm.2.next) := by
  show _ <= _
  have k := (firstM_nm most h ps HE.out.ne { mk with next := mk.next + 1 }).1
  rw [hfm] at k
  exact Nat.le_trans (Nat.le_succ _) k
 have HFM := hid hfm
 have HKM := hid hkm
 have HEQR := hid hres
 have HFIN := hid hfin
 clear hres hfin hfm hkm gu su tu
 unfold MkQ
 unfold tmv
 go_enter Tryz.func42, Tryz.ntmps42
 generalize hBB : W.heap.size = B at *
 go_upto_region 1 with fail
 rw [<- hW0]
 clear hW0
 go_wp2_with fail
 refine HTK.out.mono ?_; rintro x w1 ⟨n0, oo, cc, hn0, rfl, hm1, hl1⟩
 obtain rfl : mk.next = n0 := tv_inj hn0
 obtain ⟨W2, hW2⟩ : ∃ W2, W2 = w1.alloc (.cells #[.int .i64 1, .int .i64 mk.next, .slice oo 0 cc] 24) := ⟨_, rfl⟩
 have hq2 : Quiet0 w1 W2 := by rw [hW2]; exact Quiet0.alloc _ _
 have h7 : Bx pb W2 w1.heap.size #[.int .i64 1, .int .i64 mk.next, .slice oo 0 cc] 24 := Bx.new hm1 hq2 (Nat.le_refl _) (by rw [hW2]; exact heap_alloc_new w1 _)
 have H7 := hid h7
 have hm2 := hm1.stay hq2
 replace hm2 : MkE X1 most pb W2 { mk with next := mk.next + 1 } := hm2
 have hl2 := hl1.quiet hq2 HM0P.out
 have HM2 := hid hm2
 have HL2 := hid (HL0.out.trans hl2)
 have H42 := hid (H4.out.later hl2)
 have H62 := hid (H6.out.later hl2)
 clear hm1 hl1 hq2 h7 hm2 hl2 hn0 H4 H6 HL0 HTK
 unfold tyv
 go_upto_region 2 with fail
 change Code.wp _ _ _ _ (w1.alloc (.cells #[.int .i64 1, .int .i64 mk.next, .slice oo 0 cc] 24))
 rw [<- hW2]
 clear hW2
 generalize hC : w1.heap.size = C at *
 obtain ⟨ko, kc, kxs, hmka⟩ := HM2.out
 obtain ⟨_, _, _, q3⟩ := mk_cells hmka.box
 replace q3 : W2.cell? ⟨pb, 3, none⟩ = some (.bool false) := by rw [<- hmany]; exact q3
 obtain ⟨a0, a1, a2, a3, a4, a5, a6, a7, a8⟩ := cells9_block H42.out.1
 obtain ⟨b0, b1, b2, _, _, _⟩ := box_cells3 H7.out.1
 clear hmka
 have HBD : Hid (Calls Tryz.prog 70 #[.pointer (some ⟨pb, 0, none⟩), tmv h o1 l1 c1 (some ⟨b9, off9, none⟩) l2 c2, .slice eo en ec] W2 (BindQ X1 most pb W2 fm km)) := by
  have k := bind_let h ps IH.out HK.out W2 R X1 most pb { mk with next := mk.next + 1 } o1 l1 c1 (some ⟨b9, off9, none⟩) l2 c2 eo en ec e E (tslc_later HS2.out HR.out HM.out HL2.out) HR.out HM2.out HMO.out (HBF.out.later HL2.out) hec hz (HE.out.later HL2.out (Nat.le_succ _)) HOK.out HOKL.out HFR.out (by rw [HFM.out]; exact HFN.out)
  rw [HFM.out, HKM.out] at k
  exact k
 unfold tmv at HBD
 go_wp2_with fail
 refine HBD.out.mono ?_; rintro x w3 ⟨bs, ls, rfl, hme, hm3, hl3⟩
 have HM3 := hid hm3
 have HL3 := hid hl3
 have HME := hid hme
 have hpb := hm3.lt
 clear hm3 hl3 hme a0 a1 a2 a3 a4 a5 a6 a7 a8 b0 b1 b2 q3
 have HSS : Hid (∀ W, Later pb w3 W -> (W.cell? ⟨B, 0, none⟩ = some (.int .i64 h.k) /\ W.cell? ⟨B, 1, none⟩ = some (.string h.nm) /\ W.cell? ⟨B, 2, none⟩ = some (.int .i64 h.n) /\ W.cell? ⟨B, 3, none⟩ = some (.int .i64 h.tk) /\ W.cell? ⟨B, 4, none⟩ = some (.int .i64 h.tn) /\ W.cell? ⟨B, 5, none⟩ = some (.slice o1 l1 c1) /\ W.cell? ⟨B, 6, none⟩ = some (.slice (some ⟨b9, off9, none⟩) l2 c2) /\ W.cell? ⟨B, 7, none⟩ = some (.int .i64 h.fr) /\ W.cell? ⟨B, 8, none⟩ = some (.int .i64 h.en)) /\ (W.cell? ⟨C, 0, none⟩ = some (.int .i64 1) /\ W.cell? ⟨C, 1, none⟩ = some (.int .i64 mk.next) /\ W.cell? ⟨C, 2, none⟩ = some (.slice oo 0 cc)) /\ (W.cell? ⟨b9, off9 + 9, none⟩ = some (.int .i64 u.k) /\ W.cell? ⟨b9, off9 + 9 + 1, none⟩ = some (.string u.nm) /\ W.cell? ⟨b9, off9 + 9 + 2, none⟩ = some (.int .i64 u.n) /\ W.cell? ⟨b9, off9 + 9 + 3, none⟩ = some (.int .i64 u.tk) /\ W.cell? ⟨b9, off9 + 9 + 4, none⟩ = some (.int .i64 u.tn) /\ W.cell? ⟨b9, off9 + 9 + 5, none⟩ = some (.slice p1u m1u d1u) /\ W.cell? ⟨b9, off9 + 9 + 6, none⟩ = some (.slice p2u m2u d2u) /\ W.cell? ⟨b9, off9 + 9 + 7, none⟩ = some (.int .i64 u.fr) /\ W.cell? ⟨b9, off9 + 9 + 8, none⟩ = some (.int .i64 u.en))) := fun W' hl => by
  have hl' := HL3.out.trans hl
  obtain ⟨k0, k1, k2, _⟩ := box_cells3 (H7.out.later hl').1
  exact ⟨cells9_block (H42.out.later hl').1, ⟨k0, k1, k2⟩, cells_later cu hb9 HM.out (HL2.out.trans hl')⟩
 have HWT : Hid (∀ W, Later pb w3 W -> MkE X1 most pb W fm.2 -> Calls Tryz.prog 68 #[.slice eo en ec, .string h.nm, .func bs #[] ls] W (WtQ most pb fm.2.next W (en + 1) ((h.nm, .func bs #[] ls) :: e) ((h.nm, km) :: E))) := fun W hl hm => by
  have hl' := HL2.out.trans (HL3.out.trans hl)
  exact with2_any h.nm hm (HBF.out.later hl') (HE.out.later hl' HFL.out) hec (by omega) (HME.out.later hl (Nat.le_refl _)) HKN.out
 have HTM : Hid (∀ W o c, Later pb w3 W -> MkE X1 most pb W fm.2 -> en + 1 <= c -> PkE most pb fm.2.next W o (en + 1) ((h.nm, .func bs #[] ls) :: e) ((h.nm, km) :: E) -> Calls Tryz.prog 42 #[.pointer (some ⟨pb, 0, none⟩), tmv u p1u m1u d1u p2u m2u d2u, .slice o (en + 1) c] W (MkQ X1 most pb W res)) := fun W o c hl hm hc hpk => by
  have hl' := HL2.out.trans (HL3.out.trans hl)
  have k := IH.out 1 u qu HGU.out W R X1 most pb fm.2 p1u m1u d1u p2u m2u d2u o (en + 1) c _ _ (slcin_later HSU.out HR.out HM.out hl') (tslc_later HTU.out HR.out HM.out hl') HR.out hm HMO.out hpk.1 hc (by have := HZU.out; omega) hpk.2 HOU.out.1 HOU.out.2 HFU.out (by rw [HEQR.out]; exact HRN.out)
  rw [HEQR.out] at k
  exact k
 have HEQ : Hid (∀ (W : World) (n9 : Nat) (o9 : Option Addr) (c9 : Nat), res.1 = tv n9 -> MkE X1 most pb W res.2 -> Calls Tryz.prog 66 #[.pointer (some ⟨pb, 0, none⟩), .agg #[.int .i64 1, .int .i64 mk.next, .slice oo 0 cc], .agg #[.int .i64 1, .int .i64 n9, .slice o9 0 c9], .agg #[.int .i64 h.fr, .int .i64 h.en]] W (MkU X1 most pb W fin)) := fun W n9 o9 c9 hr hmw => by
  have k := equate_any (o1 := oo) (l1 := 0) (c1 := cc) (o2 := o9) (l2 := 0) (c2 := c9) hmw HMO.out (tv mk.next) (tv n9) h.fr h.en (SlcIn.nil _ _ _) (SlcIn.nil _ _ _) (Nat.le_of_ble_eq_true rfl) (Nat.le_of_ble_eq_true rfl)
  rw [<- hr, HFIN.out] at k
  rw [hr] at k
  exact k
 have hmk := HM3.out
 have hlc := Later.refl hpb
 obtain ⟨⟨a0, a1, a2, a3, a4, a5, a6, a7, a8⟩, ⟨b0, b1, b2⟩, ⟨v0, v1, v2, v3, v4, v5, v6, v7, v8⟩⟩ := HSS.out w3 (Later.refl hpb)
 unfold tmv at HTM
 clear cu hb9 ru
 go_upto_region 17 with fail
 go_region_held3 (fun W => (W.cell? ⟨B, 0, none⟩ = some (.int .i64 h.k) /\ W.cell? ⟨B, 1, none⟩ = some (.string h.nm) /\ W.cell? ⟨B, 2, none⟩ = some (.int .i64 h.n) /\ W.cell? ⟨B, 3, none⟩ = some (.int .i64 h.tk) /\ W.cell? ⟨B, 4, none⟩ = some (.int .i64 h.tn) /\ W.cell? ⟨B, 5, none⟩ = some (.slice o1 l1 c1) /\ W.cell? ⟨B, 6, none⟩ = some (.slice (some ⟨b9, off9, none⟩) l2 c2) /\ W.cell? ⟨B, 7, none⟩ = some (.int .i64 h.fr) /\ W.cell? ⟨B, 8, none⟩ = some (.int .i64 h.en)) /\ (W.cell? ⟨C, 0, none⟩ = some (.int .i64 1) /\ W.cell? ⟨C, 1, none⟩ = some (.int .i64 mk.next) /\ W.cell? ⟨C, 2, none⟩ = some (.slice oo 0 cc)) /\ (W.cell? ⟨b9, off9 + 9, none⟩ = some (.int .i64 u.k) /\ W.cell? ⟨b9, off9 + 9 + 1, none⟩ = some (.string u.nm) /\ W.cell? ⟨b9, off9 + 9 + 2, none⟩ = some (.int .i64 u.n) /\ W.cell? ⟨b9, off9 + 9 + 3, none⟩ = some (.int .i64 u.tk) /\ W.cell? ⟨b9, off9 + 9 + 4, none⟩ = some (.int .i64 u.tn) /\ W.cell? ⟨b9, off9 + 9 + 5, none⟩ = some (.slice p1u m1u d1u) /\ W.cell? ⟨b9, off9 + 9 + 6, none⟩ = some (.slice p2u m2u d2u) /\ W.cell? ⟨b9, off9 + 9 + 7, none⟩ = some (.int .i64 u.fr) /\ W.cell? ⟨b9, off9 + 9 + 8, none⟩ = some (.int .i64 u.en)))
  (((refine HSS.out _ ?_); (repeat with_reducible first | exact hlc | exact Later.refl hpb | refine jm hpb ?_ | refine jo hpb ?_)))
  (first
   | (go_at_call 68; (with_reducible refine Calls.mono (HWT.out _ ?hq ?hm) ?_); (case hq => (repeat with_reducible first | exact hlc | exact Later.refl hpb | refine jm hpb ?_ | refine jo hpb ?_)); (case hm => (repeat with_reducible first | exact hmk | refine ja ?_ | refine jb ?_)); rintro e wx ⟨wo, wc, rfl, hwc, hpk, hqx⟩; (refine with_ml (pb := pb) (X := X1) (most := most) (k := fm.2) (w0 := w3) ?hl2 ?hm2 hqx ?_); (case hl2 => (repeat with_reducible first | exact hlc | exact Later.refl hpb | refine jm hpb ?_ | refine jo hpb ?_)); (case hm2 => (repeat with_reducible first | exact hmk | refine ja ?_ | refine jb ?_)); intro hlc hmk)
   | ((go_at_call 42; (with_reducible refine Calls.mono (HTM.out _ _ _ ?hq ?hm hwc ?hpz) ?_)); (case hq => (repeat with_reducible first | exact hlc | exact Later.refl hpb | refine jm hpb ?_ | refine jo hpb ?_)); (case hm => (repeat with_reducible first | exact hmk | refine ja ?_ | refine jb ?_)); (case hpz => (repeat (first | with_reducible exact hpk | ((with_reducible refine PkE.st (X := X1) (k := fm.2) ?hmP (Quiet0.alloc _ _) ?_); (case hmP => (repeat with_reducible first | exact hmk | refine ja ?_ | refine jb ?_))) | ((with_reducible refine PkE.st (X := X1) (k := fm.2) ?hmP (Quiet0.drew _) ?_); (case hmP => (repeat with_reducible first | exact hmk | refine ja ?_ | refine jb ?_))) | fail))); rintro e wx ⟨n9, o9, c9, hr9, rfl, hmk, hlx⟩; unfold tyv; (refine with_lt (pb := pb) (w0 := w3) ?hl2 hlx ?_); (case hl2 => (repeat with_reducible first | exact hlc | exact Later.refl hpb | refine jm hpb ?_ | refine jo hpb ?_)); intro hlc)
   | ((go_at_call 66; (with_reducible refine Calls.mono (HEQ.out _ n9 _ _ hr9 ?hm) ?_)); (case hm => (repeat with_reducible first | exact hmk | refine ja ?_ | refine jb ?_)); rintro e wx ⟨rfl, hmk, hlx⟩; (refine with_lt (pb := pb) (w0 := w3) ?hl2 hlx ?_); (case hl2 => (repeat with_reducible first | exact hlc | exact Later.refl hpb | refine jm hpb ?_ | refine jo hpb ?_)); intro hlc)
   | fail)
 all_goals
  have HM9 := hid hmk
  have HL9 := hid (HL3.out.trans hlc)
  clear hmk hlc
  obtain ⟨g0, g1, g2, _, _, _⟩ := box_cells3 (H7.out.later HL9.out).1
  have hb6 := (H62.out.later HL9.out).1
  have HB6 := hid hb6
  obtain ⟨d0, d1, d2, y0, y1, y2⟩ := box_cells3 hb6
  clear hb6
  go_wp2_with fail
  clear d0 d1 d2 y0 y1 y2
  have hf := put3_fr wx (B + 1) (.int .i64 1) (.int .i64 mk.next) (.slice oo 0 cc)
  obtain ⟨f0, f1, f2⟩ := put3_cells (a := .int .i64 1) (b := .int .i64 mk.next) (c := .slice oo 0 cc) HB6.out
  change bodyPost _ _ _ _ _ (put3 wx (B + 1) (.int .i64 1) (.int .i64 mk.next) (.slice oo 0 cc))
  generalize put3 wx (B + 1) (.int .i64 1) (.int .i64 mk.next) (.slice oo 0 cc) = wf at *
  refine bodyPost_ret (by simp [results, Tryz.results42, go_sem, f0, f1, f2]; rfl) rfl ?_
  have hp : pb < W.heap.size := by rw [hBB]; exact HP.out
  refine ⟨mk.next, oo, cc, by rw [HRES.out], rfl, ?_, (HL2.out.trans HL9.out).put hf hp (fun i hi => by omega)⟩
  rw [HRES.out]
  exact (HM9.out.put (hf.mono (fun i _ e => by rw [HX1.out]; exact Or.inr (by omega)))).less (fun i hi => by rw [HX1.out]; exact Or.inl hi)
theorem term_rec (h : Nd) (ps : To) (ih : ∀ i g qs, ps.get i = some (g, qs) -> TmT g qs) (hk : h.k = 7) : TmN h ps := by
 intro W R X most pb mk o1 l1 c1 o2 l2 c2 eo en ec e E hs1 hs2 hR hm hmost hb hec hz hE hok hokl hfr hN hmany
 obtain ⟨W0, hW0⟩ : ∃ W0, W0 = (W.alloc (.cells (cells9 h o1 l1 c1 o2 l2 c2) 29)).alloc (.cells #[.int .i64 0, .int .i64 0, .slice none 0 0] 24) := ⟨_, rfl⟩
 have hq0 : Quiet0 W W0 := by rw [hW0]; exact (Quiet0.alloc _ _).trans (Quiet0.alloc _ _)
 have hz0 : W0.heap.size = W.heap.size + 2 := by rw [hW0]; simp
 have h4 : Bx pb W0 W.heap.size (cells9 h o1 l1 c1 o2 l2 c2) 29 := Bx.new hm hq0 (Nat.le_refl _) (by rw [hW0]; exact blk_after (Quiet0.alloc _ _) (heap_alloc_new W _))
 have h6 : Bx pb W0 (W.heap.size + 1) #[.int .i64 0, .int .i64 0, .slice none 0 0] 24 := Bx.new hm hq0 (by omega) (by
  rw [hW0]
  have := heap_alloc_new (W.alloc (.cells (cells9 h o1 l1 c1 o2 l2 c2) 29)) (.cells #[.int .i64 0, .int .i64 0, .slice none 0 0] 24)
  simpa using this)
 have hm0 := hm.more hq0 (fun i => i = W.heap.size + 1) (fun i hi => by subst hi; omega)
 have hp := hm.lt
 have hl0 := Later.of_quiet hq0 hp
 have hnx := (termM_nm most h ps E hE.ne mk).1
 have hnb : mk.next <= 500000000 := Nat.le_trans hnx hN
 have HTK := hid (take_any hm0 (by omega))
 have HM := hid hm
 have HL0 := hid hl0
 have H4 := hid h4
 have H6 := hid h6
 have HP := hid hp
 have HS2 := hid hs2
 have HR := hid hR
 have HBF := hid hb
 have HE := hid hE
 have HOK := hid hok
 have HOKL := hid hokl
 have HFR := hid hfr
 have HNB : Hid ((termM most h ps E mk).2.next <= NBd) := hN
 have HMO := hid hmost
 have HK := hid hk
 have HGO := hid (term_go most h ps E mk hmany)
 have HM0P := hid hm0.lt
 have t2 : (h.k == 2) = false := by rw [hk]; rfl
 have t3 : (h.k == 3) = false := by rw [hk]; rfl
 have t1 : (h.k == 1) = false := by rw [hk]; rfl
 have t4 : (h.k == 4) = false := by rw [hk]; rfl
 have t6 : (h.k == 6) = false := by rw [hk]; rfl
 have t7 : (h.k == 7) = true := by rw [hk]; rfl
 obtain ⟨X1, hX1⟩ : ∃ X1, X1 = (fun i => X i ∨ i = W.heap.size + 1) := ⟨_, rfl⟩
 have HX1 : Hid (∀ i, X1 i = (X i ∨ i = W.heap.size + 1)) := fun i => by rw [hX1]
 rw [<- hX1] at HTK
 clear hs1 hs2 hR hm hb hE hok hokl hfr hN hm0 hl0 hq0 h4 h6 hX1 hnx hk hp hz0 hmost
 have IH := hid ih
 clear ih
 have hl2 : 2 <= l2 := by rw [HS2.out.1]; exact HOK.out.2.2.2.2.1 HK.out
 have hi1 : (1 : Int) < l2 := by omega
 have hj1 : 1 < l2 := by omega
 obtain ⟨b9, off9, u, qu, p1u, m1u, d1u, p2u, m2u, d2u, e9, _, gu, ru, cu, su, tu⟩ := HS2.out.nth (i := 1) (by omega)
 subst e9
 have hb9 := HR.out b9 ru
 have HGU := hid gu
 have HSU := hid su
 have HTU := hid tu
 have HZU := hid (To.size_get ps 1 u qu gu)
 have HOU := hid (okTL_get ps 1 u qu HOKL.out gu)
 have HFU : Hid (Sc.free1 (h.nm :: names e) u qu = []) := by
  show _ = _
  have k := free_of HFR.out (by rw [HK.out]; decide) gu
  rwa [envOf_more _ _ (by rw [HK.out]; rfl)] at k
 obtain ⟨fm, hfm⟩ : ∃ fm, firstM most h (valsM most ps) E { mk with next := mk.next + 1 } = fm := ⟨_, rfl⟩
 obtain ⟨km, hkm⟩ : ∃ km, keptM most h (valsM most ps) E { mk with next := mk.next + 1 } = km := ⟨_, rfl⟩
 obtain ⟨res, hres⟩ : ∃ res, termM most u qu ((h.nm, km) :: E) fm.2 = res := ⟨_, rfl⟩
 obtain ⟨fin, hfin⟩ : ∃ fin, (eqP most (tv mk.next) res.1 h.fr h.en res.2).2 = fin := ⟨_, rfl⟩
 have HRES : Hid (termM most h ps E mk = (tv mk.next, fin)) := by show _ = _; rw [HGO.out, body_let (by rw [HK.out]; decide), vat_get HGU.out, hkm, hfm, hres, hfin]
 have HKN : Hid (NM km) := by show NM km; rw [<- hkm]; exact copied_nm _ _ _ _ _
 have HRN : Hid (res.2.next <= NBd) := by
  show _ <= _
  have k := HNB.out
  rw [HRES.out, <- hfin] at k
  simpa only [eqP_nx] using k
 have HFN : Hid (fm.2.next <= NBd) := by
  show _ <= _
  have k := (termM_nm most u qu ((h.nm, km) :: E) (HE.out.ne.cons HKN.out) fm.2).1
  rw [hres] at k
  exact Nat.le_trans k HRN.out
 have HFL : Hid (mk.next <= fm.2.next) := by
  show _ <= _
  have k := (firstM_nm most h ps HE.out.ne { mk with next := mk.next + 1 }).1
  rw [hfm] at k
  exact Nat.le_trans (Nat.le_succ _) k
 have HFM := hid hfm
 have HKM := hid hkm
 have HEQR := hid hres
 have HFIN := hid hfin
 clear hres hfin hfm hkm gu su tu
 unfold MkQ
 unfold tmv
 go_enter Tryz.func42, Tryz.ntmps42
 generalize hBB : W.heap.size = B at *
 go_upto_region 1 with fail
 rw [<- hW0]
 clear hW0
 go_wp2_with fail
 refine HTK.out.mono ?_; rintro x w1 ⟨n0, oo, cc, hn0, rfl, hm1, hl1⟩
 obtain rfl : mk.next = n0 := tv_inj hn0
 obtain ⟨W2, hW2⟩ : ∃ W2, W2 = w1.alloc (.cells #[.int .i64 1, .int .i64 mk.next, .slice oo 0 cc] 24) := ⟨_, rfl⟩
 have hq2 : Quiet0 w1 W2 := by rw [hW2]; exact Quiet0.alloc _ _
 have h7 : Bx pb W2 w1.heap.size #[.int .i64 1, .int .i64 mk.next, .slice oo 0 cc] 24 := Bx.new hm1 hq2 (Nat.le_refl _) (by rw [hW2]; exact heap_alloc_new w1 _)
 have H7 := hid h7
 have hm2 := hm1.stay hq2
 replace hm2 : MkE X1 most pb W2 { mk with next := mk.next + 1 } := hm2
 have hl2 := hl1.quiet hq2 HM0P.out
 have HM2 := hid hm2
 have HL2 := hid (HL0.out.trans hl2)
 have H42 := hid (H4.out.later hl2)
 have H62 := hid (H6.out.later hl2)
 clear hm1 hl1 hq2 h7 hm2 hl2 hn0 H4 H6 HL0 HTK
 unfold tyv
 go_upto_region 2 with fail
 change Code.wp _ _ _ _ (w1.alloc (.cells #[.int .i64 1, .int .i64 mk.next, .slice oo 0 cc] 24))
 rw [<- hW2]
 clear hW2
 generalize hC : w1.heap.size = C at *
 obtain ⟨ko, kc, kxs, hmka⟩ := HM2.out
 obtain ⟨_, _, _, q3⟩ := mk_cells hmka.box
 replace q3 : W2.cell? ⟨pb, 3, none⟩ = some (.bool false) := by rw [<- hmany]; exact q3
 obtain ⟨a0, a1, a2, a3, a4, a5, a6, a7, a8⟩ := cells9_block H42.out.1
 obtain ⟨b0, b1, b2, _, _, _⟩ := box_cells3 H7.out.1
 clear hmka
 have HBD : Hid (Calls Tryz.prog 70 #[.pointer (some ⟨pb, 0, none⟩), tmv h o1 l1 c1 (some ⟨b9, off9, none⟩) l2 c2, .slice eo en ec] W2 (BindQ X1 most pb W2 fm km)) := by
  have k := bind_rec h ps IH.out HK.out W2 R X1 most pb { mk with next := mk.next + 1 } o1 l1 c1 (some ⟨b9, off9, none⟩) l2 c2 eo en ec e E (tslc_later HS2.out HR.out HM.out HL2.out) HR.out HM2.out HMO.out (HBF.out.later HL2.out) hec hz (HE.out.later HL2.out (Nat.le_succ _)) HOK.out HOKL.out HFR.out (by rw [HFM.out]; exact HFN.out)
  rw [HFM.out, HKM.out] at k
  exact k
 unfold tmv at HBD
 go_wp2_with fail
 refine HBD.out.mono ?_; rintro x w3 ⟨bs, ls, rfl, hme, hm3, hl3⟩
 have HM3 := hid hm3
 have HL3 := hid hl3
 have HME := hid hme
 have hpb := hm3.lt
 clear hm3 hl3 hme a0 a1 a2 a3 a4 a5 a6 a7 a8 b0 b1 b2 q3
 have HSS : Hid (∀ W, Later pb w3 W -> (W.cell? ⟨B, 0, none⟩ = some (.int .i64 h.k) /\ W.cell? ⟨B, 1, none⟩ = some (.string h.nm) /\ W.cell? ⟨B, 2, none⟩ = some (.int .i64 h.n) /\ W.cell? ⟨B, 3, none⟩ = some (.int .i64 h.tk) /\ W.cell? ⟨B, 4, none⟩ = some (.int .i64 h.tn) /\ W.cell? ⟨B, 5, none⟩ = some (.slice o1 l1 c1) /\ W.cell? ⟨B, 6, none⟩ = some (.slice (some ⟨b9, off9, none⟩) l2 c2) /\ W.cell? ⟨B, 7, none⟩ = some (.int .i64 h.fr) /\ W.cell? ⟨B, 8, none⟩ = some (.int .i64 h.en)) /\ (W.cell? ⟨C, 0, none⟩ = some (.int .i64 1) /\ W.cell? ⟨C, 1, none⟩ = some (.int .i64 mk.next) /\ W.cell? ⟨C, 2, none⟩ = some (.slice oo 0 cc)) /\ (W.cell? ⟨b9, off9 + 9, none⟩ = some (.int .i64 u.k) /\ W.cell? ⟨b9, off9 + 9 + 1, none⟩ = some (.string u.nm) /\ W.cell? ⟨b9, off9 + 9 + 2, none⟩ = some (.int .i64 u.n) /\ W.cell? ⟨b9, off9 + 9 + 3, none⟩ = some (.int .i64 u.tk) /\ W.cell? ⟨b9, off9 + 9 + 4, none⟩ = some (.int .i64 u.tn) /\ W.cell? ⟨b9, off9 + 9 + 5, none⟩ = some (.slice p1u m1u d1u) /\ W.cell? ⟨b9, off9 + 9 + 6, none⟩ = some (.slice p2u m2u d2u) /\ W.cell? ⟨b9, off9 + 9 + 7, none⟩ = some (.int .i64 u.fr) /\ W.cell? ⟨b9, off9 + 9 + 8, none⟩ = some (.int .i64 u.en))) := fun W' hl => by
  have hl' := HL3.out.trans hl
  obtain ⟨k0, k1, k2, _⟩ := box_cells3 (H7.out.later hl').1
  exact ⟨cells9_block (H42.out.later hl').1, ⟨k0, k1, k2⟩, cells_later cu hb9 HM.out (HL2.out.trans hl')⟩
 have HWT : Hid (∀ W, Later pb w3 W -> MkE X1 most pb W fm.2 -> Calls Tryz.prog 68 #[.slice eo en ec, .string h.nm, .func bs #[] ls] W (WtQ most pb fm.2.next W (en + 1) ((h.nm, .func bs #[] ls) :: e) ((h.nm, km) :: E))) := fun W hl hm => by
  have hl' := HL2.out.trans (HL3.out.trans hl)
  exact with2_any h.nm hm (HBF.out.later hl') (HE.out.later hl' HFL.out) hec (by omega) (HME.out.later hl (Nat.le_refl _)) HKN.out
 have HTM : Hid (∀ W o c, Later pb w3 W -> MkE X1 most pb W fm.2 -> en + 1 <= c -> PkE most pb fm.2.next W o (en + 1) ((h.nm, .func bs #[] ls) :: e) ((h.nm, km) :: E) -> Calls Tryz.prog 42 #[.pointer (some ⟨pb, 0, none⟩), tmv u p1u m1u d1u p2u m2u d2u, .slice o (en + 1) c] W (MkQ X1 most pb W res)) := fun W o c hl hm hc hpk => by
  have hl' := HL2.out.trans (HL3.out.trans hl)
  have k := IH.out 1 u qu HGU.out W R X1 most pb fm.2 p1u m1u d1u p2u m2u d2u o (en + 1) c _ _ (slcin_later HSU.out HR.out HM.out hl') (tslc_later HTU.out HR.out HM.out hl') HR.out hm HMO.out hpk.1 hc (by have := HZU.out; omega) hpk.2 HOU.out.1 HOU.out.2 HFU.out (by rw [HEQR.out]; exact HRN.out)
  rw [HEQR.out] at k
  exact k
 have HEQ : Hid (∀ (W : World) (n9 : Nat) (o9 : Option Addr) (c9 : Nat), res.1 = tv n9 -> MkE X1 most pb W res.2 -> Calls Tryz.prog 66 #[.pointer (some ⟨pb, 0, none⟩), .agg #[.int .i64 1, .int .i64 mk.next, .slice oo 0 cc], .agg #[.int .i64 1, .int .i64 n9, .slice o9 0 c9], .agg #[.int .i64 h.fr, .int .i64 h.en]] W (MkU X1 most pb W fin)) := fun W n9 o9 c9 hr hmw => by
  have k := equate_any (o1 := oo) (l1 := 0) (c1 := cc) (o2 := o9) (l2 := 0) (c2 := c9) hmw HMO.out (tv mk.next) (tv n9) h.fr h.en (SlcIn.nil _ _ _) (SlcIn.nil _ _ _) (Nat.le_of_ble_eq_true rfl) (Nat.le_of_ble_eq_true rfl)
  rw [<- hr, HFIN.out] at k
  rw [hr] at k
  exact k
 have hmk := HM3.out
 have hlc := Later.refl hpb
 obtain ⟨⟨a0, a1, a2, a3, a4, a5, a6, a7, a8⟩, ⟨b0, b1, b2⟩, ⟨v0, v1, v2, v3, v4, v5, v6, v7, v8⟩⟩ := HSS.out w3 (Later.refl hpb)
 unfold tmv at HTM
 clear cu hb9 ru
 go_upto_region 17 with fail
 go_region_held3 (fun W => (W.cell? ⟨B, 0, none⟩ = some (.int .i64 h.k) /\ W.cell? ⟨B, 1, none⟩ = some (.string h.nm) /\ W.cell? ⟨B, 2, none⟩ = some (.int .i64 h.n) /\ W.cell? ⟨B, 3, none⟩ = some (.int .i64 h.tk) /\ W.cell? ⟨B, 4, none⟩ = some (.int .i64 h.tn) /\ W.cell? ⟨B, 5, none⟩ = some (.slice o1 l1 c1) /\ W.cell? ⟨B, 6, none⟩ = some (.slice (some ⟨b9, off9, none⟩) l2 c2) /\ W.cell? ⟨B, 7, none⟩ = some (.int .i64 h.fr) /\ W.cell? ⟨B, 8, none⟩ = some (.int .i64 h.en)) /\ (W.cell? ⟨C, 0, none⟩ = some (.int .i64 1) /\ W.cell? ⟨C, 1, none⟩ = some (.int .i64 mk.next) /\ W.cell? ⟨C, 2, none⟩ = some (.slice oo 0 cc)) /\ (W.cell? ⟨b9, off9 + 9, none⟩ = some (.int .i64 u.k) /\ W.cell? ⟨b9, off9 + 9 + 1, none⟩ = some (.string u.nm) /\ W.cell? ⟨b9, off9 + 9 + 2, none⟩ = some (.int .i64 u.n) /\ W.cell? ⟨b9, off9 + 9 + 3, none⟩ = some (.int .i64 u.tk) /\ W.cell? ⟨b9, off9 + 9 + 4, none⟩ = some (.int .i64 u.tn) /\ W.cell? ⟨b9, off9 + 9 + 5, none⟩ = some (.slice p1u m1u d1u) /\ W.cell? ⟨b9, off9 + 9 + 6, none⟩ = some (.slice p2u m2u d2u) /\ W.cell? ⟨b9, off9 + 9 + 7, none⟩ = some (.int .i64 u.fr) /\ W.cell? ⟨b9, off9 + 9 + 8, none⟩ = some (.int .i64 u.en)))
  (((refine HSS.out _ ?_); (repeat with_reducible first | exact hlc | exact Later.refl hpb | refine jm hpb ?_ | refine jo hpb ?_)))
  (first
   | (go_at_call 68; (with_reducible refine Calls.mono (HWT.out _ ?hq ?hm) ?_); (case hq => (repeat with_reducible first | exact hlc | exact Later.refl hpb | refine jm hpb ?_ | refine jo hpb ?_)); (case hm => (repeat with_reducible first | exact hmk | refine ja ?_ | refine jb ?_)); rintro e wx ⟨wo, wc, rfl, hwc, hpk, hqx⟩; (refine with_ml (pb := pb) (X := X1) (most := most) (k := fm.2) (w0 := w3) ?hl2 ?hm2 hqx ?_); (case hl2 => (repeat with_reducible first | exact hlc | exact Later.refl hpb | refine jm hpb ?_ | refine jo hpb ?_)); (case hm2 => (repeat with_reducible first | exact hmk | refine ja ?_ | refine jb ?_)); intro hlc hmk)
   | ((go_at_call 42; (with_reducible refine Calls.mono (HTM.out _ _ _ ?hq ?hm hwc ?hpz) ?_)); (case hq => (repeat with_reducible first | exact hlc | exact Later.refl hpb | refine jm hpb ?_ | refine jo hpb ?_)); (case hm => (repeat with_reducible first | exact hmk | refine ja ?_ | refine jb ?_)); (case hpz => (repeat (first | with_reducible exact hpk | ((with_reducible refine PkE.st (X := X1) (k := fm.2) ?hmP (Quiet0.alloc _ _) ?_); (case hmP => (repeat with_reducible first | exact hmk | refine ja ?_ | refine jb ?_))) | ((with_reducible refine PkE.st (X := X1) (k := fm.2) ?hmP (Quiet0.drew _) ?_); (case hmP => (repeat with_reducible first | exact hmk | refine ja ?_ | refine jb ?_))) | fail))); rintro e wx ⟨n9, o9, c9, hr9, rfl, hmk, hlx⟩; unfold tyv; (refine with_lt (pb := pb) (w0 := w3) ?hl2 hlx ?_); (case hl2 => (repeat with_reducible first | exact hlc | exact Later.refl hpb | refine jm hpb ?_ | refine jo hpb ?_)); intro hlc)
   | ((go_at_call 66; (with_reducible refine Calls.mono (HEQ.out _ n9 _ _ hr9 ?hm) ?_)); (case hm => (repeat with_reducible first | exact hmk | refine ja ?_ | refine jb ?_)); rintro e wx ⟨rfl, hmk, hlx⟩; (refine with_lt (pb := pb) (w0 := w3) ?hl2 hlx ?_); (case hl2 => (repeat with_reducible first | exact hlc | exact Later.refl hpb | refine jm hpb ?_ | refine jo hpb ?_)); intro hlc)
   | fail)
 all_goals
  have HM9 := hid hmk
  have HL9 := hid (HL3.out.trans hlc)
  clear hmk hlc
  obtain ⟨g0, g1, g2, _, _, _⟩ := box_cells3 (H7.out.later HL9.out).1
  have hb6 := (H62.out.later HL9.out).1
  have HB6 := hid hb6
  obtain ⟨d0, d1, d2, y0, y1, y2⟩ := box_cells3 hb6
  clear hb6
  go_wp2_with fail
  clear d0 d1 d2 y0 y1 y2
  have hf := put3_fr wx (B + 1) (.int .i64 1) (.int .i64 mk.next) (.slice oo 0 cc)
  obtain ⟨f0, f1, f2⟩ := put3_cells (a := .int .i64 1) (b := .int .i64 mk.next) (c := .slice oo 0 cc) HB6.out
  change bodyPost _ _ _ _ _ (put3 wx (B + 1) (.int .i64 1) (.int .i64 mk.next) (.slice oo 0 cc))
  generalize put3 wx (B + 1) (.int .i64 1) (.int .i64 mk.next) (.slice oo 0 cc) = wf at *
  refine bodyPost_ret (by simp [results, Tryz.results42, go_sem, f0, f1, f2]; rfl) rfl ?_
  have hp : pb < W.heap.size := by rw [hBB]; exact HP.out
  refine ⟨mk.next, oo, cc, by rw [HRES.out], rfl, ?_, (HL2.out.trans HL9.out).put hf hp (fun i hi => by omega)⟩
  rw [HRES.out]
  exact (HM9.out.put (hf.mono (fun i _ e => by rw [HX1.out]; exact Or.inr (by omega)))).less (fun i hi => by rw [HX1.out]; exact Or.inl hi)
end Em
end
end Go.Proofs.YtcninopmelmajaaGreatDoor
