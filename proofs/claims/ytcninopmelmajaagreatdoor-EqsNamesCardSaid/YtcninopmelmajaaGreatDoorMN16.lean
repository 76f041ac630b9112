/-
  Texts laid together (EqTIf, EqTTup, EqTAnn, EqAll, EqOf): laws and walks, with their conditions.
-/
import Derived.Test.YtcninopmelmajaaGreatDoorMN15
set_option maxHeartbeats 8000000
set_option maxRecDepth 1000000
namespace Go.Proofs.YtcninopmelmajaaGreatDoor
open Go.Lib (hid)
section
open Go.RowKit
namespace Em
theorem term_if (h : Nd) (ps : To) (ih : ∀ i g qs, ps.get i = some (g, qs) -> TmT g qs) (hk : h.k = 8) : TmN h ps := by
 intro W R X most pb mk o1 l1 c1 o2 l2 c2 eo en ec e E hs1 hs2 hR hm hmost hb hec hz hE hok hokl hfr hN hmany
 obtain ⟨W0, hW0⟩ : ∃ W0, W0 = (W.alloc (.cells (cells9 h o1 l1 c1 o2 l2 c2) 29)).alloc (.cells #[.int .i64 0, .int .i64 0, .slice none 0 0] 24) := ⟨_, rfl⟩
 have hq0 : Quiet0 W W0 := by rw [hW0]; exact (Quiet0.alloc _ _).trans (Quiet0.alloc _ _)
 have hz0 : W0.heap.size = W.heap.size + 2 := by rw [hW0]; simp
 have h4 : Bx pb W0 W.heap.size (cells9 h o1 l1 c1 o2 l2 c2) 29 := Bx.new hm hq0 (Nat.le_refl _) (by rw [hW0]; exact blk_after (Quiet0.alloc _ _) (heap_alloc_new W _))
 have h6 : Bx pb W0 (W.heap.size + 1) #[.int .i64 0, .int .i64 0, .slice none 0 0] 24 := Bx.new hm hq0 (by omega) (by
  rw [hW0]
  have := heap_alloc_new (W.alloc (.cells (cells9 h o1 l1 c1 o2 l2 c2) 29)) (.cells #[.int .i64 0, .int .i64 0, .slice none 0 0] 24)
  simpa using this)
 have hm0 := hm.more hq0 (fun i => i = W.heap.size + 1) (fun i hi => by subst hi; omega)
 have hp := hm.lt
 have hl0 := Later.of_quiet hq0 hp
 have hnx := (termM_nm most h ps E hE.ne mk).1
 have hnb : mk.next <= 500000000 := Nat.le_trans hnx hN
 have HTK := hid (take_any hm0 (by omega))
 have HM := hid hm
 have HL0 := hid hl0
 have H4 := hid h4
 have H6 := hid h6
 have HP := hid hp
 have HS2 := hid hs2
 have HR := hid hR
 have HBF := hid hb
 have HE := hid hE
 have HOK := hid hok
 have HOKL := hid hokl
 have HFR := hid hfr
 have HNB : Hid ((termM most h ps E mk).2.next <= NBd) := hN
 have HMO := hid hmost
 have HK := hid hk
 have HGO := hid (term_go most h ps E mk hmany)
 have HM0P := hid hm0.lt
 have t2 : (h.k == 2) = false := by rw [hk]; rfl
 have t3 : (h.k == 3) = false := by rw [hk]; rfl
 have t1 : (h.k == 1) = false := by rw [hk]; rfl
 have t4 : (h.k == 4) = false := by rw [hk]; rfl
 have t6 : (h.k == 6) = false := by rw [hk]; rfl
 have t7 : (h.k == 7) = false := by rw [hk]; rfl
 have t5 : (h.k == 5) = false := by rw [hk]; rfl
 have t8 : (h.k == 8) = true := by rw [hk]; rfl
 obtain ⟨X1, hX1⟩ : ∃ X1, X1 = (fun i => X i ∨ i = W.heap.size + 1) := ⟨_, rfl⟩
 have HX1 : Hid (∀ i, X1 i = (X i ∨ i = W.heap.size + 1)) := fun i => by rw [hX1]
 rw [<- hX1] at HTK
 clear hs1 hs2 hR hm hb hE hok hokl hfr hN hm0 hl0 hq0 h4 h6 hX1 hnx hk hp hz0 hmost
 have HFP : Hid (∀ j g qs, ps.get j = some (g, qs) -> Sc.free1 (names e) g qs = []) := fun j g qs hg => by
  have k := free_of HFR.out (by rw [HK.out]; decide) hg
  rwa [envOf_same _ _ (by rw [HK.out]; exact not_binds (by decide) (by decide) (by decide) j)] at k
 have IH := hid ih
 clear ih
 obtain ⟨res, hres⟩ : ∃ res, mapE E (valsM most ps) { mk with next := mk.next + 1 } = res := ⟨_, rfl⟩
 obtain ⟨fin, hfin⟩ : ∃ fin, (eqP most (tv mk.next) (tat res.1 2) (spanAt ps 2).1 (spanAt ps 2).2 (eqP most (tv mk.next) (tat res.1 1) (spanAt ps 1).1 (spanAt ps 1).2 (eqP most (tat res.1 0) (3, 0, .nil) (spanAt ps 0).1 (spanAt ps 0).2 res.2).2).2).2 = fin := ⟨_, rfl⟩
 have HRES : Hid (termM most h ps E mk = (tv mk.next, fin)) := by show _ = _; rw [HGO.out, body_if HK.out, hres, hfin]
 have HRL : Hid (res.1.length = l2) := by show _ = _; rw [<- hres, mapE_length, valsM_length, HS2.out.1]
 have HRN : Hid (res.2.next <= NBd) := by
  show _ <= _
  have k := HNB.out
  rw [HRES.out] at k
  rw [<- hfin] at k
  simpa only [eqP_nx] using k
 have HEQR := hid hres
 have HFIN := hid hfin
 have hl2 : 3 <= l2 := by rw [HS2.out.1]; exact HOK.out.2.2.2.2.2.1 HK.out
 have hi0 : (0 : Int) < l2 := by omega
 have hj0 : 0 < l2 := by omega
 have hj1 : 2 <= l2 -> 1 < l2 := by omega
 have hj2 : 3 <= l2 -> 2 < l2 := by omega
 have hi1 : 2 <= l2 -> (1 : Int) < l2 := by omega
 have hi2 : 3 <= l2 -> (2 : Int) < l2 := by omega
 have hlz : l2 <= 100000 := by have := To.length_le ps; have := HS2.out.1; omega
 clear hres hfin
 unfold MkQ
 unfold tmv
 go_enter Tryz.func42, Tryz.ntmps42
 generalize hBB : W.heap.size = B at *
 go_upto_region 1 with fail
 rw [<- hW0]
 clear hW0
 go_wp2_with fail
 refine HTK.out.mono ?_; rintro x w1 ⟨n0, oo, cc, hn0, rfl, hm1, hl1⟩
 obtain rfl : mk.next = n0 := tv_inj hn0
 obtain ⟨W2, hW2⟩ : ∃ W2, W2 = w1.alloc (.cells #[.int .i64 1, .int .i64 mk.next, .slice oo 0 cc] 24) := ⟨_, rfl⟩
 have hq2 : Quiet0 w1 W2 := by rw [hW2]; exact Quiet0.alloc _ _
 have h7 : Bx pb W2 w1.heap.size #[.int .i64 1, .int .i64 mk.next, .slice oo 0 cc] 24 := Bx.new hm1 hq2 (Nat.le_refl _) (by rw [hW2]; exact heap_alloc_new w1 _)
 have H7 := hid h7
 have hm2 := hm1.stay hq2
 replace hm2 : MkE X1 most pb W2 { mk with next := mk.next + 1 } := hm2
 have hl2 := hl1.quiet hq2 HM0P.out
 have HM2 := hid hm2
 have HL2 := hid (HL0.out.trans hl2)
 have H42 := hid (H4.out.later hl2)
 have H62 := hid (H6.out.later hl2)
 have HP2 := hid hm2.lt
 clear hm1 hl1 hq2 h7 hm2 hl2 hn0 H4 H6 HL0 HTK
 unfold tyv
 go_upto_region 2 with fail
 change Code.wp _ _ _ _ (w1.alloc (.cells #[.int .i64 1, .int .i64 mk.next, .slice oo 0 cc] 24))
 rw [<- hW2]
 clear hW2
 generalize hC : w1.heap.size = C at *
 obtain ⟨ko, kc, kxs, hmka⟩ := HM2.out
 obtain ⟨_, _, _, q3⟩ := mk_cells hmka.box
 replace q3 : W2.cell? ⟨pb, 3, none⟩ = some (.bool false) := by rw [<- hmany]; exact q3
 obtain ⟨a0, a1, a2, a3, a4, a5, a6, a7, a8⟩ := cells9_block H42.out.1
 obtain ⟨b0, b1, b2, _, _, _⟩ := box_cells3 H7.out.1
 clear hmka
 have HPT : Hid (∀ W, Later pb W2 W -> MkE X1 most pb W { mk with next := mk.next + 1 } -> Calls Tryz.prog 71 #[.pointer (some ⟨pb, 0, none⟩), tmv h o1 l1 c1 o2 l2 c2, .slice eo en ec] W (PtQ X1 most pb W res)) := fun W' hl hmw => by
  have hl' := HL2.out.trans hl
  have k := parts_any h ps IH.out W' R X1 most pb { mk with next := mk.next + 1 } o1 l1 c1 o2 l2 c2 eo en ec e E (tslc_later HS2.out HR.out HM.out hl') HR.out hmw HMO.out (HBF.out.later hl') hec hz (HE.out.later hl' (Nat.le_succ _)) HOKL.out HFP.out (by rw [HEQR.out]; exact HRN.out)
  rw [HEQR.out] at k
  exact k
 unfold tmv at HPT
 obtain ⟨b9, off9, u, qu, p1u, m1u, d1u, p2u, m2u, d2u, e9, _, gu, ru, cu, _, tu⟩ := HS2.out.nth (i := 0) (by omega)
 subst e9
 have hb9 := HR.out b9 ru
 have hsp : spanAt ps 0 = (u.fr, u.en) := by unfold spanAt; rw [gu]
 obtain ⟨b9', off9', u1, qu1, p1u1, m1u1, d1u1, p2u1, m2u1, d2u1, e9, _, gu1, _, cu1, _, _⟩ := HS2.out.nth (i := 1) (by omega)
 obtain ⟨rfl, rfl⟩ : b9 = b9' /\ off9 = off9' := by cases e9; exact ⟨rfl, rfl⟩
 obtain ⟨b9', off9', u2, qu2, p1u2, m1u2, d1u2, p2u2, m2u2, d2u2, e9', _, gu2, _, cu2, _, _⟩ := HS2.out.nth (i := 2) (by omega)
 obtain ⟨rfl, rfl⟩ : b9 = b9' /\ off9 = off9' := by cases e9'; exact ⟨rfl, rfl⟩
 have hsp1 : spanAt ps 1 = (u1.fr, u1.en) := by unfold spanAt; rw [gu1]
 have hsp2 : spanAt ps 2 = (u2.fr, u2.en) := by unfold spanAt; rw [gu2]
 go_wp2_with fail
 refine (HPT.out _ (Later.refl HP2.out) HM2.out).mono ?_; rintro x w3 ⟨o, c, rfl, hcl, hpt, hm3, hl3⟩
 clear a0 a1 a2 a3 a4 a5 a6 a7 a8 b0 b1 b2 q3
 obtain ⟨gp, n0, n0o, n0c, rfl, n0t, n00, n01, n02⟩ := hpt.get (i := 0) (by rw [HRL.out]; omega)
 obtain ⟨gp1, n1, n1o, n1c, e1, n1t, n10, n11, n12⟩ := hpt.get (i := 1) (by rw [HRL.out]; omega)
 obtain rfl : gp = gp1 := by cases e1; rfl
 obtain ⟨gp2, n2, n2o, n2c, e2, n2t, n20, n21, n22⟩ := hpt.get (i := 2) (by rw [HRL.out]; omega)
 obtain rfl : gp = gp2 := by cases e2; rfl
 have hgt := hpt.tf rfl (by rw [HRL.out]; omega)
 rw [HRL.out]
 have HM3 := hid hm3
 have HL3 := hid hl3
 obtain ⟨mka, hmka⟩ : ∃ mka, (eqP most (tv n0) (3, 0, .nil) u.fr u.en res.2).2 = mka := ⟨_, rfl⟩
 obtain ⟨mkb, hmkb⟩ : ∃ mkb, (eqP most (tv mk.next) (tv n1) u1.fr u1.en mka).2 = mkb := ⟨_, rfl⟩
 have HFIN2 : Hid ((eqP most (tv mk.next) (tv n2) u2.fr u2.en mkb).2 = fin) := by show _ = _; rw [<- hmkb, <- hmka, <- HFIN.out, hsp, hsp1, hsp2, n0t, n1t, n2t]
 have HA := hid hmka
 have HB := hid hmkb
 have HSS : Hid (∀ W, Later pb w3 W -> (W.cell? ⟨B, 0, none⟩ = some (.int .i64 h.k) /\ W.cell? ⟨B, 1, none⟩ = some (.string h.nm) /\ W.cell? ⟨B, 2, none⟩ = some (.int .i64 h.n) /\ W.cell? ⟨B, 3, none⟩ = some (.int .i64 h.tk) /\ W.cell? ⟨B, 4, none⟩ = some (.int .i64 h.tn) /\ W.cell? ⟨B, 5, none⟩ = some (.slice o1 l1 c1) /\ W.cell? ⟨B, 6, none⟩ = some (.slice (some ⟨b9, off9, none⟩) l2 c2) /\ W.cell? ⟨B, 7, none⟩ = some (.int .i64 h.fr) /\ W.cell? ⟨B, 8, none⟩ = some (.int .i64 h.en)) /\ (W.cell? ⟨C, 0, none⟩ = some (.int .i64 1) /\ W.cell? ⟨C, 1, none⟩ = some (.int .i64 mk.next) /\ W.cell? ⟨C, 2, none⟩ = some (.slice oo 0 cc)) /\ (W.cell? ⟨gp, 0, none⟩ = some (.int .i64 1) /\ W.cell? ⟨gp, 1, none⟩ = some (.int .i64 n0) /\ W.cell? ⟨gp, 2, none⟩ = some (.slice n0o 0 n0c)) /\ (W.cell? ⟨gp, 3, none⟩ = some (.int .i64 1) /\ W.cell? ⟨gp, 4, none⟩ = some (.int .i64 n1) /\ W.cell? ⟨gp, 5, none⟩ = some (.slice n1o 0 n1c)) /\ (W.cell? ⟨gp, 6, none⟩ = some (.int .i64 1) /\ W.cell? ⟨gp, 7, none⟩ = some (.int .i64 n2) /\ W.cell? ⟨gp, 8, none⟩ = some (.slice n2o 0 n2c)) /\ (W.cell? ⟨b9, off9 + 7, none⟩ = some (.int .i64 u.fr) /\ W.cell? ⟨b9, off9 + 8, none⟩ = some (.int .i64 u.en)) /\ (W.cell? ⟨b9, off9 + 16, none⟩ = some (.int .i64 u1.fr) /\ W.cell? ⟨b9, off9 + 17, none⟩ = some (.int .i64 u1.en)) /\ (W.cell? ⟨b9, off9 + 25, none⟩ = some (.int .i64 u2.fr) /\ W.cell? ⟨b9, off9 + 26, none⟩ = some (.int .i64 u2.en))) := fun W' hl => by
  have hl' := HL3.out.trans hl
  obtain ⟨k0, k1, k2, _⟩ := box_cells3 (H7.out.later hl').1
  obtain ⟨_, _, _, _, _, _, _, f7, f8⟩ := cells_later cu hb9 HM.out (HL2.out.trans hl')
  obtain ⟨_, _, _, _, _, _, _, f7', f8'⟩ := cells_later cu1 hb9 HM.out (HL2.out.trans hl')
  obtain ⟨_, _, _, _, _, _, _, f7'', f8''⟩ := cells_later cu2 hb9 HM.out (HL2.out.trans hl')
  exact ⟨cells9_block (H42.out.later hl').1, ⟨k0, k1, k2⟩, ⟨cell_later hgt hl n00, cell_later hgt hl n01, cell_later hgt hl n02⟩, ⟨cell_later hgt hl n10, cell_later hgt hl n11, cell_later hgt hl n12⟩, ⟨cell_later hgt hl n20, cell_later hgt hl n21, cell_later hgt hl n22⟩, ⟨f7, f8⟩, ⟨f7', f8'⟩, ⟨f7'', f8''⟩⟩
 have HEQ1 : Hid (∀ W, MkE X1 most pb W res.2 -> Calls Tryz.prog 66 #[.pointer (some ⟨pb, 0, none⟩), .agg #[.int .i64 1, .int .i64 n0, .slice n0o 0 n0c], .agg #[.int .i64 3, .int .i64 0, .slice none 0 0], .agg #[.int .i64 u.fr, .int .i64 u.en]] W (MkU X1 most pb W mka)) := fun W hmw => by
  have k := equate_any (o1 := n0o) (l1 := 0) (c1 := n0c) (o2 := none) (l2 := 0) (c2 := 0) hmw HMO.out (tv n0) (3, 0, .nil) u.fr u.en (SlcIn.nil _ _ _) (SlcIn.nil _ _ _) (Nat.le_of_ble_eq_true rfl) (Nat.le_of_ble_eq_true rfl)
  rw [HA.out] at k
  exact k
 have HEQ2 : Hid (∀ W, MkE X1 most pb W mka -> Calls Tryz.prog 66 #[.pointer (some ⟨pb, 0, none⟩), .agg #[.int .i64 1, .int .i64 mk.next, .slice oo 0 cc], .agg #[.int .i64 1, .int .i64 n1, .slice n1o 0 n1c], .agg #[.int .i64 u1.fr, .int .i64 u1.en]] W (MkU X1 most pb W mkb)) := fun W hmw => by
  have k := equate_any (o1 := oo) (l1 := 0) (c1 := cc) (o2 := n1o) (l2 := 0) (c2 := n1c) hmw HMO.out (tv mk.next) (tv n1) u1.fr u1.en (SlcIn.nil _ _ _) (SlcIn.nil _ _ _) (Nat.le_of_ble_eq_true rfl) (Nat.le_of_ble_eq_true rfl)
  rw [HB.out] at k
  exact k
 have HEQ3 : Hid (∀ W, MkE X1 most pb W mkb -> Calls Tryz.prog 66 #[.pointer (some ⟨pb, 0, none⟩), .agg #[.int .i64 1, .int .i64 mk.next, .slice oo 0 cc], .agg #[.int .i64 1, .int .i64 n2, .slice n2o 0 n2c], .agg #[.int .i64 u2.fr, .int .i64 u2.en]] W (MkU X1 most pb W fin)) := fun W hmw => by
  have k := equate_any (o1 := oo) (l1 := 0) (c1 := cc) (o2 := n2o) (l2 := 0) (c2 := n2c) hmw HMO.out (tv mk.next) (tv n2) u2.fr u2.en (SlcIn.nil _ _ _) (SlcIn.nil _ _ _) (Nat.le_of_ble_eq_true rfl) (Nat.le_of_ble_eq_true rfl)
  rw [HFIN2.out] at k
  exact k
 replace hi1 := hi1 (by omega)
 replace hi2 := hi2 hl2
 replace hj1 := hj1 (by omega)
 replace hj2 := hj2 hl2
 have hpb := hm3.lt
 obtain ⟨⟨a0, a1, a2, a3, a4, a5, a6, a7, a8⟩, ⟨b0, b1, b2⟩, ⟨p0, p1, p2⟩, ⟨p3, p4, p5⟩, ⟨p6, p7, p8⟩, ⟨f0, f1⟩, ⟨f2, f3⟩, ⟨f4, f5⟩⟩ := HSS.out w3 (Later.refl hpb)
 clear hpt hm3 hl3 hgt n0t n1t n2t hmka hmkb hsp hsp1 hsp2 hb9 cu cu1 cu2 tu gu gu1 gu2 ru n00 n01 n02 n10 n11 n12 n20 n21 n22
 go_upto_region 23 with fail
 refine wp_region_still_tail 10 (by kernel_rfl) (by kernel_rfl) ?_
 simp only [List.take_succ_cons, List.take_zero, List.drop_succ_cons, List.drop_zero]
 change wpStill _ _ (World.drew w3) _ _ _
 repeat still_step
 refine wpStill_nil ?_
 change wpList _ _ _ _ _ (World.drew w3)
 go_wp2_with fail
 refine (HEQ1.out _ (HM3.out.stay (Quiet0.drew _))).mono ?_; rintro x w4 ⟨rfl, hm4, hl4⟩
 have HM4 := hid hm4
 have HL4 := hid ((Later.of_quiet (Quiet0.drew w3) hpb).trans hl4)
 clear hm4 hl4
 clear a0 a1 a2 a3 a4 a5 a6 a7 a8 b0 b1 b2 p0 p1 p2 p3 p4 p5 p6 p7 p8 f0 f1 f2 f3 f4 f5
 obtain ⟨⟨a0, a1, a2, a3, a4, a5, a6, a7, a8⟩, ⟨b0, b1, b2⟩, ⟨p0, p1, p2⟩, ⟨p3, p4, p5⟩, ⟨p6, p7, p8⟩, ⟨f0, f1⟩, ⟨f2, f3⟩, ⟨f4, f5⟩⟩ := HSS.out w4 HL4.out
 go_upto_region 24 with fail
 refine wp_region_still_tail 10 (by kernel_rfl) (by kernel_rfl) ?_
 simp only [List.take_succ_cons, List.take_zero, List.drop_succ_cons, List.drop_zero]
 change wpStill _ _ (World.drew w4) _ _ _
 repeat still_step
 refine wpStill_nil ?_
 change wpList _ _ _ _ _ (World.drew w4)
 go_wp2_with fail
 refine (HEQ2.out _ (HM4.out.stay (Quiet0.drew _))).mono ?_; rintro x w5 ⟨rfl, hm5, hl5⟩
 have HM5 := hid hm5
 have HL5 := hid (HL4.out.trans ((Later.of_quiet (Quiet0.drew w4) HM4.out.lt).trans hl5))
 clear hm5 hl5
 clear a0 a1 a2 a3 a4 a5 a6 a7 a8 b0 b1 b2 p0 p1 p2 p3 p4 p5 p6 p7 p8 f0 f1 f2 f3 f4 f5
 obtain ⟨⟨a0, a1, a2, a3, a4, a5, a6, a7, a8⟩, ⟨b0, b1, b2⟩, ⟨p0, p1, p2⟩, ⟨p3, p4, p5⟩, ⟨p6, p7, p8⟩, ⟨f0, f1⟩, ⟨f2, f3⟩, ⟨f4, f5⟩⟩ := HSS.out w5 HL5.out
 go_upto_region 25 with fail
 refine wp_region_still_tail 10 (by kernel_rfl) (by kernel_rfl) ?_
 simp only [List.take_succ_cons, List.take_zero, List.drop_succ_cons, List.drop_zero]
 change wpStill _ _ (World.drew w5) _ _ _
 repeat still_step
 refine wpStill_nil ?_
 change wpList _ _ _ _ _ (World.drew w5)
 go_wp2_with fail
 refine (HEQ3.out _ (HM5.out.stay (Quiet0.drew _))).mono ?_; rintro x w6 ⟨rfl, hm6, hl6⟩
 have HM6 := hid hm6
 have HL6 := hid (HL3.out.trans (HL5.out.trans ((Later.of_quiet (Quiet0.drew w5) HM5.out.lt).trans hl6)))
 clear hm6 hl6 a0 a1 a2 a3 a4 a5 a6 a7 a8 b0 b1 b2 p0 p1 p2 p3 p4 p5 p6 p7 p8 f0 f1 f2 f3 f4 f5
 obtain ⟨g0, g1, g2, _, _, _⟩ := box_cells3 (H7.out.later HL6.out).1
 have hb6 := (H62.out.later HL6.out).1
 have HB6 := hid hb6
 obtain ⟨d0, d1, d2, y0, y1, y2⟩ := box_cells3 hb6
 clear hb6
 go_wp2_with fail
 clear d0 d1 d2 y0 y1 y2
 have hf := put3_fr w6 (B + 1) (.int .i64 1) (.int .i64 mk.next) (.slice oo 0 cc)
 obtain ⟨f0, f1, f2⟩ := put3_cells (a := .int .i64 1) (b := .int .i64 mk.next) (c := .slice oo 0 cc) HB6.out
 change bodyPost _ _ _ _ _ (put3 w6 (B + 1) (.int .i64 1) (.int .i64 mk.next) (.slice oo 0 cc))
 generalize put3 w6 (B + 1) (.int .i64 1) (.int .i64 mk.next) (.slice oo 0 cc) = wf at *
 refine bodyPost_ret (by simp [results, Tryz.results42, go_sem, f0, f1, f2]; rfl) rfl ?_
 have hp : pb < W.heap.size := by rw [hBB]; exact HP.out
 refine ⟨mk.next, oo, cc, by rw [HRES.out], rfl, ?_, (HL2.out.trans HL6.out).put hf hp (fun i hi => by omega)⟩
 rw [HRES.out]
 exact (HM6.out.put (hf.mono (fun i _ e => by rw [HX1.out]; exact Or.inr (by omega)))).less (fun i hi => by rw [HX1.out]; exact Or.inl hi)
end Em
end
section
open Go.RowKit
namespace Em
theorem term_tuple (h : Nd) (ps : To) (ih : ∀ i g qs, ps.get i = some (g, qs) -> TmT g qs) (hk : h.k = 9) : TmN h ps := by
 intro W R X most pb mk o1 l1 c1 o2 l2 c2 eo en ec e E hs1 hs2 hR hm hmost hb hec hz hE hok hokl hfr hN hmany
 obtain ⟨W0, hW0⟩ : ∃ W0, W0 = (W.alloc (.cells (cells9 h o1 l1 c1 o2 l2 c2) 29)).alloc (.cells #[.int .i64 0, .int .i64 0, .slice none 0 0] 24) := ⟨_, rfl⟩
 have hq0 : Quiet0 W W0 := by rw [hW0]; exact (Quiet0.alloc _ _).trans (Quiet0.alloc _ _)
 have hz0 : W0.heap.size = W.heap.size + 2 := by rw [hW0]; simp
 have h4 : Bx pb W0 W.heap.size (cells9 h o1 l1 c1 o2 l2 c2) 29 := Bx.new hm hq0 (Nat.le_refl _) (by rw [hW0]; exact blk_after (Quiet0.alloc _ _) (heap_alloc_new W _))
 have h6 : Bx pb W0 (W.heap.size + 1) #[.int .i64 0, .int .i64 0, .slice none 0 0] 24 := Bx.new hm hq0 (by omega) (by
  rw [hW0]
  have := heap_alloc_new (W.alloc (.cells (cells9 h o1 l1 c1 o2 l2 c2) 29)) (.cells #[.int .i64 0, .int .i64 0, .slice none 0 0] 24)
  simpa using this)
 have hm0 := hm.more hq0 (fun i => i = W.heap.size + 1) (fun i hi => by subst hi; omega)
 have hp := hm.lt
 have hl0 := Later.of_quiet hq0 hp
 have hnx := (termM_nm most h ps E hE.ne mk).1
 have hnb : mk.next <= 500000000 := Nat.le_trans hnx hN
 have HTK := hid (take_any hm0 (by omega))
 have HM := hid hm
 have HL0 := hid hl0
 have H4 := hid h4
 have H6 := hid h6
 have HP := hid hp
 have HS2 := hid hs2
 have HR := hid hR
 have HBF := hid hb
 have HE := hid hE
 have HOKL := hid hokl
 have HFR := hid hfr
 have HNB : Hid ((termM most h ps E mk).2.next <= NBd) := hN
 have HMO := hid hmost
 have HK := hid hk
 have HGO := hid (term_go most h ps E mk hmany)
 have HM0P := hid hm0.lt
 have t2 : (h.k == 2) = false := by rw [hk]; rfl
 have t3 : (h.k == 3) = false := by rw [hk]; rfl
 have t1 : (h.k == 1) = false := by rw [hk]; rfl
 have t4 : (h.k == 4) = false := by rw [hk]; rfl
 have t6 : (h.k == 6) = false := by rw [hk]; rfl
 have t7 : (h.k == 7) = false := by rw [hk]; rfl
 have t5 : (h.k == 5) = false := by rw [hk]; rfl
 have t8 : (h.k == 8) = false := by rw [hk]; rfl
 have t9 : (h.k == 9) = true := by rw [hk]; rfl
 obtain ⟨X1, hX1⟩ : ∃ X1, X1 = (fun i => X i ∨ i = W.heap.size + 1) := ⟨_, rfl⟩
 have HX1 : Hid (∀ i, X1 i = (X i ∨ i = W.heap.size + 1)) := fun i => by rw [hX1]
 rw [<- hX1] at HTK
 clear hs1 hs2 hR hm hb hE hok hokl hfr hN hm0 hl0 hq0 h4 h6 hX1 hnx hk hp hz0 hmost
 have HFP : Hid (∀ j g qs, ps.get j = some (g, qs) -> Sc.free1 (names e) g qs = []) := fun j g qs hg => by
  have k := free_of HFR.out (by rw [HK.out]; decide) hg
  rwa [envOf_same _ _ (by rw [HK.out]; exact not_binds (by decide) (by decide) (by decide) j)] at k
 have IH := hid ih
 clear ih
 obtain ⟨res, hres⟩ : ∃ res, mapE E (valsM most ps) { mk with next := mk.next + 1 } = res := ⟨_, rfl⟩
 obtain ⟨fin, hfin⟩ : ∃ fin, (eqP most (tv mk.next) (5, 0, foOf res.1) h.fr h.en res.2).2 = fin := ⟨_, rfl⟩
 have HRES : Hid (termM most h ps E mk = (tv mk.next, fin)) := by show _ = _; rw [HGO.out, body_tuple HK.out, hres, hfin]
 have HRL : Hid (res.1.length = l2) := by show _ = _; rw [<- hres, mapE_length, valsM_length, HS2.out.1]
 have HRN : Hid (res.2.next <= NBd) := by
  show _ <= _
  have k := HNB.out
  rw [HRES.out] at k
  rw [<- hfin] at k
  simpa only [eqP_nx] using k
 have HEQR := hid hres
 have HFIN := hid hfin
 have hlz : l2 <= 100000 := by have := To.length_le ps; have := HS2.out.1; omega
 clear hres hfin
 unfold MkQ
 unfold tmv
 go_enter Tryz.func42, Tryz.ntmps42
 generalize hBB : W.heap.size = B at *
 go_upto_region 1 with fail
 rw [<- hW0]
 clear hW0
 go_wp2_with fail
 refine HTK.out.mono ?_; rintro x w1 ⟨n0, oo, cc, hn0, rfl, hm1, hl1⟩
 obtain rfl : mk.next = n0 := tv_inj hn0
 obtain ⟨W2, hW2⟩ : ∃ W2, W2 = w1.alloc (.cells #[.int .i64 1, .int .i64 mk.next, .slice oo 0 cc] 24) := ⟨_, rfl⟩
 have hq2 : Quiet0 w1 W2 := by rw [hW2]; exact Quiet0.alloc _ _
 have h7 : Bx pb W2 w1.heap.size #[.int .i64 1, .int .i64 mk.next, .slice oo 0 cc] 24 := Bx.new hm1 hq2 (Nat.le_refl _) (by rw [hW2]; exact heap_alloc_new w1 _)
 have H7 := hid h7
 have hm2 := hm1.stay hq2
 replace hm2 : MkE X1 most pb W2 { mk with next := mk.next + 1 } := hm2
 have hl2 := hl1.quiet hq2 HM0P.out
 have HM2 := hid hm2
 have HL2 := hid (HL0.out.trans hl2)
 have H42 := hid (H4.out.later hl2)
 have H62 := hid (H6.out.later hl2)
 have HP2 := hid hm2.lt
 clear hm1 hl1 hq2 h7 hm2 hl2 hn0 H4 H6 HL0 HTK
 unfold tyv
 go_upto_region 2 with fail
 change Code.wp _ _ _ _ (w1.alloc (.cells #[.int .i64 1, .int .i64 mk.next, .slice oo 0 cc] 24))
 rw [<- hW2]
 clear hW2
 generalize hC : w1.heap.size = C at *
 obtain ⟨ko, kc, kxs, hmka⟩ := HM2.out
 obtain ⟨_, _, _, q3⟩ := mk_cells hmka.box
 replace q3 : W2.cell? ⟨pb, 3, none⟩ = some (.bool false) := by rw [<- hmany]; exact q3
 obtain ⟨a0, a1, a2, a3, a4, a5, a6, a7, a8⟩ := cells9_block H42.out.1
 obtain ⟨b0, b1, b2, _, _, _⟩ := box_cells3 H7.out.1
 clear hmka
 have HPT : Hid (∀ W, Later pb W2 W -> MkE X1 most pb W { mk with next := mk.next + 1 } -> Calls Tryz.prog 71 #[.pointer (some ⟨pb, 0, none⟩), tmv h o1 l1 c1 o2 l2 c2, .slice eo en ec] W (PtQ X1 most pb W res)) := fun W' hl hmw => by
  have hl' := HL2.out.trans hl
  have k := parts_any h ps IH.out W' R X1 most pb { mk with next := mk.next + 1 } o1 l1 c1 o2 l2 c2 eo en ec e E (tslc_later HS2.out HR.out HM.out hl') HR.out hmw HMO.out (HBF.out.later hl') hec hz (HE.out.later hl' (Nat.le_succ _)) HOKL.out HFP.out (by rw [HEQR.out]; exact HRN.out)
  rw [HEQR.out] at k
  exact k
 have HPU : Hid (∀ W, Later pb W2 W -> MkE X1 most pb W { mk with next := mk.next + 1 } -> Calls Tryz.prog 71 #[.pointer (some ⟨pb, 0, none⟩), tmv h o1 l1 c1 o2 l2 c2, .slice eo en ec] W (TpQ X1 most pb W l2 res)) := fun W hl hmw => (HPT.out W hl hmw).mono (by
  rintro x w' ⟨o, c, rfl, hcl, hpt, hm3, hl3⟩
  have hs := hpt.slc
  rw [HRL.out] at hs ⊢
  exact ⟨o, c, rfl, hs, by rw [hpt.size, HRL.out]; exact hlz, hm3, hl3⟩)
 unfold tmv at HPU
 have HEQ : Hid (∀ (W : World) (o4 : Option Addr) (c4 : Nat), MkE X1 most pb W res.2 -> SlcIn (TF X1 pb W) W o4 l2 (foOf res.1) -> (foOf res.1).size <= 100000 -> Calls Tryz.prog 66 #[.pointer (some ⟨pb, 0, none⟩), .agg #[.int .i64 1, .int .i64 mk.next, .slice oo 0 cc], .agg #[.int .i64 5, .int .i64 0, .slice o4 l2 c4], .agg #[.int .i64 h.fr, .int .i64 h.en]] W (MkU X1 most pb W fin)) := fun W o4 c4 hmw hs hz5 => by
  have k := equate_any (o1 := oo) (l1 := 0) (c1 := cc) (c2 := c4) hmw HMO.out (tv mk.next) (5, 0, foOf res.1) h.fr h.en (SlcIn.nil _ _ _) hs (Nat.le_of_ble_eq_true rfl) hz5
  rw [HFIN.out] at k
  exact k
 have HSS : Hid (∀ W, Later pb W2 W -> (W.cell? ⟨B, 0, none⟩ = some (.int .i64 h.k) /\ W.cell? ⟨B, 1, none⟩ = some (.string h.nm) /\ W.cell? ⟨B, 2, none⟩ = some (.int .i64 h.n) /\ W.cell? ⟨B, 3, none⟩ = some (.int .i64 h.tk) /\ W.cell? ⟨B, 4, none⟩ = some (.int .i64 h.tn) /\ W.cell? ⟨B, 5, none⟩ = some (.slice o1 l1 c1) /\ W.cell? ⟨B, 6, none⟩ = some (.slice o2 l2 c2) /\ W.cell? ⟨B, 7, none⟩ = some (.int .i64 h.fr) /\ W.cell? ⟨B, 8, none⟩ = some (.int .i64 h.en)) /\ (W.cell? ⟨C, 0, none⟩ = some (.int .i64 1) /\ W.cell? ⟨C, 1, none⟩ = some (.int .i64 mk.next) /\ W.cell? ⟨C, 2, none⟩ = some (.slice oo 0 cc))) := fun W hl => by
  obtain ⟨k0, k1, k2, _⟩ := box_cells3 (H7.out.later hl).1
  exact ⟨cells9_block (H42.out.later hl).1, ⟨k0, k1, k2⟩⟩
 have hpb := HP2.out
 have hmk := HM2.out
 have hlc := Later.refl hpb
 go_upto_region 27 with fail
 go_region_held3 (fun W => (W.cell? ⟨B, 0, none⟩ = some (.int .i64 h.k) /\ W.cell? ⟨B, 1, none⟩ = some (.string h.nm) /\ W.cell? ⟨B, 2, none⟩ = some (.int .i64 h.n) /\ W.cell? ⟨B, 3, none⟩ = some (.int .i64 h.tk) /\ W.cell? ⟨B, 4, none⟩ = some (.int .i64 h.tn) /\ W.cell? ⟨B, 5, none⟩ = some (.slice o1 l1 c1) /\ W.cell? ⟨B, 6, none⟩ = some (.slice o2 l2 c2) /\ W.cell? ⟨B, 7, none⟩ = some (.int .i64 h.fr) /\ W.cell? ⟨B, 8, none⟩ = some (.int .i64 h.en)) /\ (W.cell? ⟨C, 0, none⟩ = some (.int .i64 1) /\ W.cell? ⟨C, 1, none⟩ = some (.int .i64 mk.next) /\ W.cell? ⟨C, 2, none⟩ = some (.slice oo 0 cc)))
  (((refine HSS.out _ ?_); (repeat with_reducible first | exact hlc | exact Later.refl hpb | refine jm hpb ?_ | refine jo hpb ?_)))
  (first
   | ((go_at_call 71; (with_reducible refine Calls.mono (HPU.out _ ?hq ?hm) ?_)); (case hq => (repeat with_reducible first | exact hlc | exact Later.refl hpb | refine jm hpb ?_ | refine jo hpb ?_)); (case hm => (repeat with_reducible first | exact hmk | refine ja ?_ | refine jb ?_)); rintro e wx ⟨o4, c4, rfl, hs4, hz4, hmk, hlx⟩; (refine with_lt (pb := pb) (w0 := W2) ?hl2 hlx ?_); (case hl2 => (repeat with_reducible first | exact hlc | exact Later.refl hpb | refine jm hpb ?_ | refine jo hpb ?_)); intro hlc)
   | ((go_at_call 66; (with_reducible refine Calls.mono (HEQ.out _ _ _ ?hm ?hs1 hz4) ?_)); (case hm => (repeat with_reducible first | exact hmk | refine ja ?_ | refine jb ?_)); (case hs1 => (repeat (first | with_reducible exact hs4 | ((with_reducible refine slc_st (pb := pb) (X := X1) (most := most) (k := res.2) ?hmS (Quiet0.alloc _ _) ?_); (case hmS => (repeat with_reducible first | exact hmk | refine ja ?_ | refine jb ?_))) | ((with_reducible refine slc_st (pb := pb) (X := X1) (most := most) (k := res.2) ?hmS (Quiet0.drew _) ?_); (case hmS => (repeat with_reducible first | exact hmk | refine ja ?_ | refine jb ?_))) | fail))); rintro e wx ⟨rfl, hmk, hlx⟩; (refine with_lt (pb := pb) (w0 := W2) ?hl2 hlx ?_); (case hl2 => (repeat with_reducible first | exact hlc | exact Later.refl hpb | refine jm hpb ?_ | refine jo hpb ?_)); intro hlc)
   | fail)
 all_goals
  have HM4 := hid hmk
  have HL4 := hid hlc
  clear hmk hlc
  obtain ⟨g0, g1, g2, _, _, _⟩ := box_cells3 (H7.out.later HL4.out).1
  have hb6 := (H62.out.later HL4.out).1
  have HB6 := hid hb6
  obtain ⟨d0, d1, d2, y0, y1, y2⟩ := box_cells3 hb6
  clear hb6
  go_wp2_with fail
  clear d0 d1 d2 y0 y1 y2
  have hf := put3_fr wx (B + 1) (.int .i64 1) (.int .i64 mk.next) (.slice oo 0 cc)
  obtain ⟨f0, f1, f2⟩ := put3_cells (a := .int .i64 1) (b := .int .i64 mk.next) (c := .slice oo 0 cc) HB6.out
  change bodyPost _ _ _ _ _ (put3 wx (B + 1) (.int .i64 1) (.int .i64 mk.next) (.slice oo 0 cc))
  generalize put3 wx (B + 1) (.int .i64 1) (.int .i64 mk.next) (.slice oo 0 cc) = wf at *
  refine bodyPost_ret (by simp [results, Tryz.results42, go_sem, f0, f1, f2]; rfl) rfl ?_
  have hp : pb < W.heap.size := by rw [hBB]; exact HP.out
  refine ⟨mk.next, oo, cc, by rw [HRES.out], rfl, ?_, (HL2.out.trans HL4.out).put hf hp (fun i hi => by omega)⟩
  rw [HRES.out]
  exact (HM4.out.put (hf.mono (fun i _ e => by rw [HX1.out]; exact Or.inr (by omega)))).less (fun i hi => by rw [HX1.out]; exact Or.inl hi)
end Em
end
section
open Go.RowKit
namespace Em
theorem term_ann (h : Nd) (ps : To) (ih : ∀ i g qs, ps.get i = some (g, qs) -> TmT g qs) (hk : h.k = 10) : TmN h ps := by
 intro W R X most pb mk o1 l1 c1 o2 l2 c2 eo en ec e E hs1 hs2 hR hm hmost hb hec hz hE hok hokl hfr hN hmany
 obtain ⟨W0, hW0⟩ : ∃ W0, W0 = (W.alloc (.cells (cells9 h o1 l1 c1 o2 l2 c2) 29)).alloc (.cells #[.int .i64 0, .int .i64 0, .slice none 0 0] 24) := ⟨_, rfl⟩
 have hq0 : Quiet0 W W0 := by rw [hW0]; exact (Quiet0.alloc _ _).trans (Quiet0.alloc _ _)
 have hz0 : W0.heap.size = W.heap.size + 2 := by rw [hW0]; simp
 have h4 : Bx pb W0 W.heap.size (cells9 h o1 l1 c1 o2 l2 c2) 29 := Bx.new hm hq0 (Nat.le_refl _) (by rw [hW0]; exact blk_after (Quiet0.alloc _ _) (heap_alloc_new W _))
 have h6 : Bx pb W0 (W.heap.size + 1) #[.int .i64 0, .int .i64 0, .slice none 0 0] 24 := Bx.new hm hq0 (by omega) (by
  rw [hW0]
  have := heap_alloc_new (W.alloc (.cells (cells9 h o1 l1 c1 o2 l2 c2) 29)) (.cells #[.int .i64 0, .int .i64 0, .slice none 0 0] 24)
  simpa using this)
 have hm0 := hm.more hq0 (fun i => i = W.heap.size + 1) (fun i hi => by subst hi; omega)
 have hp := hm.lt
 have hl0 := Later.of_quiet hq0 hp
 have hnx := (termM_nm most h ps E hE.ne mk).1
 have hnb : mk.next <= 500000000 := Nat.le_trans hnx hN
 have HTK := hid (take_any hm0 (by omega))
 have HM := hid hm
 have HL0 := hid hl0
 have H4 := hid h4
 have H6 := hid h6
 have HP := hid hp
 have HS1 := hid hs1
 have HS2 := hid hs2
 have HR := hid hR
 have HBF := hid hb
 have HE := hid hE
 have HOK := hid hok
 have HOKL := hid hokl
 have HFR := hid hfr
 have HNB : Hid ((termM most h ps E mk).2.next <= NBd) := hN
 have HMO := hid hmost
 have HK := hid hk
 have HGO := hid (term_go most h ps E mk hmany)
 have HM0P := hid hm0.lt
 have t2 : (h.k == 2) = false := by rw [hk]; rfl
 have t3 : (h.k == 3) = false := by rw [hk]; rfl
 have t1 : (h.k == 1) = false := by rw [hk]; rfl
 have t4 : (h.k == 4) = false := by rw [hk]; rfl
 have t6 : (h.k == 6) = false := by rw [hk]; rfl
 have t7 : (h.k == 7) = false := by rw [hk]; rfl
 have t5 : (h.k == 5) = false := by rw [hk]; rfl
 have t8 : (h.k == 8) = false := by rw [hk]; rfl
 have t9 : (h.k == 9) = false := by rw [hk]; rfl
 have t10 : (h.k == 10) = true := by rw [hk]; rfl
 obtain ⟨X1, hX1⟩ : ∃ X1, X1 = (fun i => X i ∨ i = W.heap.size + 1) := ⟨_, rfl⟩
 have HX1 : Hid (∀ i, X1 i = (X i ∨ i = W.heap.size + 1)) := fun i => by rw [hX1]
 rw [<- hX1] at HTK
 clear hs1 hs2 hR hm hb hE hok hokl hfr hN hm0 hl0 hq0 h4 h6 hX1 hnx hk hp hz0 hmost
 have HFP : Hid (∀ j g qs, ps.get j = some (g, qs) -> Sc.free1 (names e) g qs = []) := fun j g qs hg => by
  have k := free_of HFR.out (by rw [HK.out]; decide) hg
  rwa [envOf_same _ _ (by rw [HK.out]; exact not_binds (by decide) (by decide) (by decide) j)] at k
 have IH := hid ih
 clear ih
 obtain ⟨res, hres⟩ : ∃ res, mapE E (valsM most ps) { mk with next := mk.next + 1 } = res := ⟨_, rfl⟩
 obtain ⟨fin, hfin⟩ : ∃ fin, (eqP most (tv mk.next) (h.tk, h.tn, h.tp) h.fr h.en (eqP most (tat res.1 0) (h.tk, h.tn, h.tp) (spanAt ps 0).1 (spanAt ps 0).2 res.2).2).2 = fin := ⟨_, rfl⟩
 have HRES : Hid (termM most h ps E mk = (tv mk.next, fin)) := by show _ = _; rw [HGO.out, body_ann HK.out, hres, hfin]
 have HRL : Hid (res.1.length = l2) := by show _ = _; rw [<- hres, mapE_length, valsM_length, HS2.out.1]
 have HRN : Hid (res.2.next <= NBd) := by
  show _ <= _
  have k := HNB.out
  rw [HRES.out] at k
  rw [<- hfin] at k
  simpa only [eqP_nx] using k
 have HEQR := hid hres
 have HFIN := hid hfin
 have hl2 : 1 <= l2 := by rw [HS2.out.1]; exact HOK.out.2.2.2.2.2.2.1 HK.out
 have hi0 : (0 : Int) < l2 := by omega
 have hj0 : 0 < l2 := by omega
 have hlz : l2 <= 100000 := by have := To.length_le ps; have := HS2.out.1; omega
 clear hres hfin
 unfold MkQ
 unfold tmv
 go_enter Tryz.func42, Tryz.ntmps42
 generalize hBB : W.heap.size = B at *
 go_upto_region 1 with fail
 rw [<- hW0]
 clear hW0
 go_wp2_with fail
 refine HTK.out.mono ?_; rintro x w1 ⟨n0, oo, cc, hn0, rfl, hm1, hl1⟩
 obtain rfl : mk.next = n0 := tv_inj hn0
 obtain ⟨W2, hW2⟩ : ∃ W2, W2 = w1.alloc (.cells #[.int .i64 1, .int .i64 mk.next, .slice oo 0 cc] 24) := ⟨_, rfl⟩
 have hq2 : Quiet0 w1 W2 := by rw [hW2]; exact Quiet0.alloc _ _
 have h7 : Bx pb W2 w1.heap.size #[.int .i64 1, .int .i64 mk.next, .slice oo 0 cc] 24 := Bx.new hm1 hq2 (Nat.le_refl _) (by rw [hW2]; exact heap_alloc_new w1 _)
 have H7 := hid h7
 have hm2 := hm1.stay hq2
 replace hm2 : MkE X1 most pb W2 { mk with next := mk.next + 1 } := hm2
 have hl2 := hl1.quiet hq2 HM0P.out
 have HM2 := hid hm2
 have HL2 := hid (HL0.out.trans hl2)
 have H42 := hid (H4.out.later hl2)
 have H62 := hid (H6.out.later hl2)
 have HP2 := hid hm2.lt
 clear hm1 hl1 hq2 h7 hm2 hl2 hn0 H4 H6 HL0 HTK
 unfold tyv
 go_upto_region 2 with fail
 change Code.wp _ _ _ _ (w1.alloc (.cells #[.int .i64 1, .int .i64 mk.next, .slice oo 0 cc] 24))
 rw [<- hW2]
 clear hW2
 generalize hC : w1.heap.size = C at *
 obtain ⟨ko, kc, kxs, hmka⟩ := HM2.out
 obtain ⟨_, _, _, q3⟩ := mk_cells hmka.box
 replace q3 : W2.cell? ⟨pb, 3, none⟩ = some (.bool false) := by rw [<- hmany]; exact q3
 obtain ⟨a0, a1, a2, a3, a4, a5, a6, a7, a8⟩ := cells9_block H42.out.1
 obtain ⟨b0, b1, b2, _, _, _⟩ := box_cells3 H7.out.1
 clear hmka
 have HPT : Hid (∀ W, Later pb W2 W -> MkE X1 most pb W { mk with next := mk.next + 1 } -> Calls Tryz.prog 71 #[.pointer (some ⟨pb, 0, none⟩), tmv h o1 l1 c1 o2 l2 c2, .slice eo en ec] W (AnQ X1 most pb W l2 res)) := fun W' hl hmw => by
  have hl' := HL2.out.trans hl
  have k := parts_any h ps IH.out W' R X1 most pb { mk with next := mk.next + 1 } o1 l1 c1 o2 l2 c2 eo en ec e E (tslc_later HS2.out HR.out HM.out hl') HR.out hmw HMO.out (HBF.out.later hl') hec hz (HE.out.later hl' (Nat.le_succ _)) HOKL.out HFP.out (by rw [HEQR.out]; exact HRN.out)
  rw [HEQR.out] at k
  refine k.mono ?_
  rintro x w' ⟨o, c, rfl, hcl, hpt, hm3, hl3⟩
  have hgt := hpt.get (i := 0) (by rw [HRL.out]; omega)
  obtain ⟨gp, n0, n0o, n0c, rfl, n0t, n00, n01, n02⟩ := hgt
  rw [HRL.out]
  exact ⟨gp, c, n0, n0o, n0c, rfl, n0t, hpt.tf rfl (by rw [HRL.out]; omega), n00, n01, n02, hm3, hl3⟩
 unfold tmv at HPT
 obtain ⟨b9, off9, u, qu, p1u, m1u, d1u, p2u, m2u, d2u, e9, _, gu, ru, cu, _, tu⟩ := HS2.out.nth (i := 0) (by omega)
 subst e9
 have hb9 := HR.out b9 ru
 have hsp : spanAt ps 0 = (u.fr, u.en) := by unfold spanAt; rw [gu]
 obtain ⟨mka, hmka⟩ : ∃ mka, (eqP most (tat res.1 0) (h.tk, h.tn, h.tp) u.fr u.en res.2).2 = mka := ⟨_, rfl⟩
 have HMKA := hid hmka
 have HFIN2 : Hid ((eqP most (tv mk.next) (h.tk, h.tn, h.tp) h.fr h.en mka).2 = fin) := by show _ = _; rw [<- hmka, <- HFIN.out, hsp]
 have htz : h.tp.size <= 100000 := HOK.out.2.2.2.2.2.2.2
 have HCP : Hid (∀ W, Later pb W2 W -> Calls Tryz.prog 62 #[.agg #[.int .i64 h.tk, .int .i64 h.tn, .slice o1 l1 c1]] W (CoQ W h.tk h.tn l1 h.tp)) := fun W' hl => copy_any h.tk h.tn h.tp W' o1 l1 c1 (slcin_later HS1.out HR.out HM.out (HL2.out.trans hl)).slc (by omega)
 have HEQ1 : Hid (∀ (W : World) (n0 : Nat) (n0o : Option Addr) (n0c : Nat) (o4 : Option Addr) (c4 : Nat), tat res.1 0 = tv n0 -> MkE X1 most pb W res.2 -> SlcIn (TF X1 pb W) W o4 l1 h.tp -> Calls Tryz.prog 66 #[.pointer (some ⟨pb, 0, none⟩), .agg #[.int .i64 1, .int .i64 n0, .slice n0o 0 n0c], .agg #[.int .i64 h.tk, .int .i64 h.tn, .slice o4 l1 c4], .agg #[.int .i64 u.fr, .int .i64 u.en]] W (MkU X1 most pb W mka)) := fun W n0 n0o n0c o4 c4 ht hmw hs => by
  have k := equate_any (o1 := n0o) (l1 := 0) (c1 := n0c) (c2 := c4) hmw HMO.out (tv n0) (h.tk, h.tn, h.tp) u.fr u.en (SlcIn.nil _ _ _) hs (Nat.le_of_ble_eq_true rfl) htz
  rw [<- ht, HMKA.out] at k
  rw [ht] at k
  exact k
 have HEQ2 : Hid (∀ (W : World) (o4 : Option Addr) (c4 : Nat), MkE X1 most pb W mka -> SlcIn (TF X1 pb W) W o4 l1 h.tp -> Calls Tryz.prog 66 #[.pointer (some ⟨pb, 0, none⟩), .agg #[.int .i64 1, .int .i64 mk.next, .slice oo 0 cc], .agg #[.int .i64 h.tk, .int .i64 h.tn, .slice o4 l1 c4], .agg #[.int .i64 h.fr, .int .i64 h.en]] W (MkU X1 most pb W fin)) := fun W o4 c4 hmw hs => by
  have k := equate_any (o1 := oo) (l1 := 0) (c1 := cc) (c2 := c4) hmw HMO.out (tv mk.next) (h.tk, h.tn, h.tp) h.fr h.en (SlcIn.nil _ _ _) hs (Nat.le_of_ble_eq_true rfl) htz
  rw [HFIN2.out] at k
  exact k
 have HSS : Hid (∀ W, Later pb W2 W -> (W.cell? ⟨B, 0, none⟩ = some (.int .i64 h.k) /\ W.cell? ⟨B, 1, none⟩ = some (.string h.nm) /\ W.cell? ⟨B, 2, none⟩ = some (.int .i64 h.n) /\ W.cell? ⟨B, 3, none⟩ = some (.int .i64 h.tk) /\ W.cell? ⟨B, 4, none⟩ = some (.int .i64 h.tn) /\ W.cell? ⟨B, 5, none⟩ = some (.slice o1 l1 c1) /\ W.cell? ⟨B, 6, none⟩ = some (.slice (some ⟨b9, off9, none⟩) l2 c2) /\ W.cell? ⟨B, 7, none⟩ = some (.int .i64 h.fr) /\ W.cell? ⟨B, 8, none⟩ = some (.int .i64 h.en)) /\ (W.cell? ⟨C, 0, none⟩ = some (.int .i64 1) /\ W.cell? ⟨C, 1, none⟩ = some (.int .i64 mk.next) /\ W.cell? ⟨C, 2, none⟩ = some (.slice oo 0 cc)) /\ (W.cell? ⟨b9, off9 + 7, none⟩ = some (.int .i64 u.fr) /\ W.cell? ⟨b9, off9 + 8, none⟩ = some (.int .i64 u.en))) := fun W' hl => by
  obtain ⟨k0, k1, k2, _⟩ := box_cells3 (H7.out.later hl).1
  obtain ⟨_, _, _, _, _, _, _, f7, f8⟩ := cells_later cu hb9 HM.out (HL2.out.trans hl)
  exact ⟨cells9_block (H42.out.later hl).1, ⟨k0, k1, k2⟩, f7, f8⟩
 have hpb := HP2.out
 obtain ⟨_, _, f7, f8⟩ := HSS.out W2 (Later.refl hpb)
 have hmk := HM2.out
 have hlc := Later.refl hpb
 clear hmka hsp hb9 cu tu gu ru
 go_upto_region 29 with fail
 go_cut [] (fun wx => MkE X1 most pb wx mka /\ Later pb W2 wx)
 case first =>
  refine wp_region_held_drew (S := (fun (W : World) => (W.cell? ⟨B, 0, none⟩ = some (.int .i64 h.k) /\ W.cell? ⟨B, 1, none⟩ = some (.string h.nm) /\ W.cell? ⟨B, 2, none⟩ = some (.int .i64 h.n) /\ W.cell? ⟨B, 3, none⟩ = some (.int .i64 h.tk) /\ W.cell? ⟨B, 4, none⟩ = some (.int .i64 h.tn) /\ W.cell? ⟨B, 5, none⟩ = some (.slice o1 l1 c1) /\ W.cell? ⟨B, 6, none⟩ = some (.slice (some ⟨b9, off9, none⟩) l2 c2) /\ W.cell? ⟨B, 7, none⟩ = some (.int .i64 h.fr) /\ W.cell? ⟨B, 8, none⟩ = some (.int .i64 h.en)) /\ (W.cell? ⟨C, 0, none⟩ = some (.int .i64 1) /\ W.cell? ⟨C, 1, none⟩ = some (.int .i64 mk.next) /\ W.cell? ⟨C, 2, none⟩ = some (.slice oo 0 cc)) /\ (W.cell? ⟨b9, off9 + 7, none⟩ = some (.int .i64 u.fr) /\ W.cell? ⟨b9, off9 + 8, none⟩ = some (.int .i64 u.en)))) (by kernel_rfl) ?hS0_1 (fun hHeld => ?_)
  case hS0_1 => exact HSS.out _ (Later.of_quiet (Quiet0.drew W2) HP2.out)
  (try dsimp only at hHeld)
  refine Hd.take0 (v := ?v_2) (by kernel_rfl) (by kernel_rfl) (by kernel_rfl) (fun _ _ _ h => h) (Or.inl ⟨by rfl, ?hy_3⟩) (by assumption) ?rest_4
  case hy_3 => (intro w hSw; (try dsimp only at hSw); go_simp <;> with_reducible rfl)
  simp only [Act.put, List.setIfInBounds_toArray, List.set_cons_zero, List.set_cons_succ]
  refine Hd.take1 (v := ?v_5) (by kernel_rfl) (by kernel_rfl) (by kernel_rfl) (fun _ _ _ h => h) (Or.inl ⟨by rfl, ?hy_6⟩) (by assumption) ?rest_7
  case hy_6 => (intro w hSw; (try dsimp only at hSw); go_simp <;> with_reducible rfl)
  simp only [Act.put, List.setIfInBounds_toArray, List.set_cons_zero, List.set_cons_succ]
  refine Hd.take2 (v := ?v_8) (by kernel_rfl) (by kernel_rfl) (by kernel_rfl) (fun _ _ _ h => h) (Or.inl ⟨by rfl, ?hy_9⟩) (by assumption) ?rest_10
  case hy_9 => (intro w hSw; (try dsimp only at hSw); go_simp <;> with_reducible rfl)
  simp only [Act.put, List.setIfInBounds_toArray, List.set_cons_zero, List.set_cons_succ]
  refine Hd.take3 (v := ?v_11) (by kernel_rfl) (by kernel_rfl) (by kernel_rfl) (fun _ _ _ h => h) (Or.inl ⟨by rfl, ?hy_12⟩) (by assumption) ?rest_13
  case hy_12 => (intro w hSw; (try dsimp only at hSw); go_simp <;> with_reducible rfl)
  simp only [Act.put, List.setIfInBounds_toArray, List.set_cons_zero, List.set_cons_succ]
  refine Hd.take7 (v := ?v_14) (by kernel_rfl) (by kernel_rfl) (by kernel_rfl) (fun _ _ _ h => h) (Or.inl ⟨by rfl, ?hy_15⟩) (by assumption) ?rest_16
  case hy_15 => (intro w hSw; (try dsimp only at hSw); go_simp <;> with_reducible rfl)
  simp only [Act.put, List.setIfInBounds_toArray, List.set_cons_zero, List.set_cons_succ]
  refine Hd.take8 (v := ?v_17) (by kernel_rfl) (by kernel_rfl) (by kernel_rfl) (fun _ _ _ h => h) (Or.inl ⟨by rfl, ?hy_18⟩) (by assumption) ?rest_19
  case hy_18 => (intro w hSw; (try dsimp only at hSw); go_simp <;> with_reducible rfl)
  simp only [Act.put, List.setIfInBounds_toArray, List.set_cons_zero, List.set_cons_succ]
  refine Hd.take10 (v := ?v_20) (by kernel_rfl) (by kernel_rfl) (by kernel_rfl) (fun _ _ _ h => h) (Or.inl ⟨by rfl, ?hy_21⟩) (by assumption) ?rest_22
  case hy_21 => (intro w hSw; (try dsimp only at hSw); go_simp <;> with_reducible rfl)
  simp only [Act.put, List.setIfInBounds_toArray, List.set_cons_zero, List.set_cons_succ]
  refine Hd.take11 (v := ?v_23) (by kernel_rfl) (by kernel_rfl) (by kernel_rfl) (fun _ _ _ h => h) (Or.inl ⟨by rfl, ?hy_24⟩) (by assumption) ?rest_25
  case hy_24 => (intro w hSw; (try dsimp only at hSw); go_simp <;> with_reducible rfl)
  simp only [Act.put, List.setIfInBounds_toArray, List.set_cons_zero, List.set_cons_succ]
  refine Hd.take12 (v := ?v_26) (by kernel_rfl) (by kernel_rfl) (by kernel_rfl) (fun _ _ _ h => h) (Or.inl ⟨by rfl, ?hy_27⟩) (by assumption) ?rest_28
  case hy_27 => (intro w hSw; (try dsimp only at hSw); go_simp <;> with_reducible rfl)
  simp only [Act.put, List.setIfInBounds_toArray, List.set_cons_zero, List.set_cons_succ]
  refine Hd.take13 (v := ?v_29) (by kernel_rfl) (by kernel_rfl) (by kernel_rfl) (fun _ _ _ h => h) (Or.inl ⟨by rfl, ?hy_30⟩) (by assumption) ?rest_31
  case hy_30 => (intro w hSw; (try dsimp only at hSw); go_simp <;> with_reducible rfl)
  simp only [Act.put, List.setIfInBounds_toArray, List.set_cons_zero, List.set_cons_succ]
  refine Hd.take14 (v := ?v_32) (by kernel_rfl) (by kernel_rfl) (by kernel_rfl) (fun _ _ _ h => h) (Or.inl ⟨by rfl, ?hy_33⟩) (by assumption) ?rest_34
  case hy_33 => (intro w hSw; (try dsimp only at hSw); go_simp <;> with_reducible rfl)
  simp only [Act.put, List.setIfInBounds_toArray, List.set_cons_zero, List.set_cons_succ]
  refine wpAnyH_ready (rs := [4]) (by kernel_rfl) (by simp) ?_
  refine Hd.cons4 (fun K hK => ?_) ?_
  ·go_simp
   go_at_call 71
   (with_reducible refine Calls.mono (HPT.out _ ?hq_35 ?hm_36) ?_); (case hq_35 => (repeat with_reducible first | exact hlc | exact Later.refl hpb | refine jm hpb ?_ | refine jo hpb ?_)); (case hm_36 => (repeat with_reducible first | exact hmk | refine ja ?_ | refine jb ?_))
   rintro e wx ⟨gp, c3, n0, n0o, n0c, rfl, n0t, gtf, n00, n01, n02, hmk, hlx⟩
   (try (replace hs4 := slc_later hs4 hlx))
   (refine with_lt (pb := pb) (w0 := W2) ?hl2_37 hlx ?_); (case hl2_37 => (repeat with_reducible first | exact hlc | exact Later.refl hpb | refine jm hpb ?_ | refine jo hpb ?_))
   intro hlc
   refine hK.out _ _ ?hS_38 (fun hHeld => ?_)
   case hS_38 => exact HSS.out _ hlc
   clear hK K
   (try simp only [Act.put, List.setIfInBounds_toArray, List.set_cons_zero, List.set_cons_succ])
   refine Hd.more (S' := (fun (W : World) => ((W.cell? ⟨B, 0, none⟩ = some (.int .i64 h.k) /\ W.cell? ⟨B, 1, none⟩ = some (.string h.nm) /\ W.cell? ⟨B, 2, none⟩ = some (.int .i64 h.n) /\ W.cell? ⟨B, 3, none⟩ = some (.int .i64 h.tk) /\ W.cell? ⟨B, 4, none⟩ = some (.int .i64 h.tn) /\ W.cell? ⟨B, 5, none⟩ = some (.slice o1 l1 c1) /\ W.cell? ⟨B, 6, none⟩ = some (.slice (some ⟨b9, off9, none⟩) l2 c2) /\ W.cell? ⟨B, 7, none⟩ = some (.int .i64 h.fr) /\ W.cell? ⟨B, 8, none⟩ = some (.int .i64 h.en)) /\ (W.cell? ⟨C, 0, none⟩ = some (.int .i64 1) /\ W.cell? ⟨C, 1, none⟩ = some (.int .i64 mk.next) /\ W.cell? ⟨C, 2, none⟩ = some (.slice oo 0 cc)) /\ (W.cell? ⟨b9, off9 + 7, none⟩ = some (.int .i64 u.fr) /\ W.cell? ⟨b9, off9 + 8, none⟩ = some (.int .i64 u.en))) /\ (W.cell? ⟨gp, 0, none⟩ = some (.int .i64 1) /\ W.cell? ⟨gp, 1, none⟩ = some (.int .i64 n0) /\ W.cell? ⟨gp, 2, none⟩ = some (.slice n0o 0 n0c)))) (fun _ h => h.1) _ _ _ _ ?_
   replace hHeld : (fun (W : World) => ((W.cell? ⟨B, 0, none⟩ = some (.int .i64 h.k) /\ W.cell? ⟨B, 1, none⟩ = some (.string h.nm) /\ W.cell? ⟨B, 2, none⟩ = some (.int .i64 h.n) /\ W.cell? ⟨B, 3, none⟩ = some (.int .i64 h.tk) /\ W.cell? ⟨B, 4, none⟩ = some (.int .i64 h.tn) /\ W.cell? ⟨B, 5, none⟩ = some (.slice o1 l1 c1) /\ W.cell? ⟨B, 6, none⟩ = some (.slice (some ⟨b9, off9, none⟩) l2 c2) /\ W.cell? ⟨B, 7, none⟩ = some (.int .i64 h.fr) /\ W.cell? ⟨B, 8, none⟩ = some (.int .i64 h.en)) /\ (W.cell? ⟨C, 0, none⟩ = some (.int .i64 1) /\ W.cell? ⟨C, 1, none⟩ = some (.int .i64 mk.next) /\ W.cell? ⟨C, 2, none⟩ = some (.slice oo 0 cc)) /\ (W.cell? ⟨b9, off9 + 7, none⟩ = some (.int .i64 u.fr) /\ W.cell? ⟨b9, off9 + 8, none⟩ = some (.int .i64 u.en))) /\ (W.cell? ⟨gp, 0, none⟩ = some (.int .i64 1) /\ W.cell? ⟨gp, 1, none⟩ = some (.int .i64 n0) /\ W.cell? ⟨gp, 2, none⟩ = some (.slice n0o 0 n0c))) _ := ⟨HSS.out _ hlc, n00, n01, n02⟩
   (try dsimp only at hHeld)
   refine Hd.take5 (v := ?v_39) (by kernel_rfl) (by kernel_rfl) (by kernel_rfl) (fun _ _ _ h => h) (Or.inl ⟨by rfl, ?hy_40⟩) (by assumption) ?rest_41
   case hy_40 => (intro w hSw; (try dsimp only at hSw); go_simp <;> with_reducible rfl)
   simp only [Act.put, List.setIfInBounds_toArray, List.set_cons_zero, List.set_cons_succ]
   refine Hd.take6 (v := ?v_42) (by kernel_rfl) (by kernel_rfl) (by kernel_rfl) (fun _ _ _ h => h) (Or.inl ⟨by rfl, ?hy_43⟩) (by assumption) ?rest_44
   case hy_43 => (intro w hSw; (try dsimp only at hSw); go_simp <;> with_reducible rfl)
   simp only [Act.put, List.setIfInBounds_toArray, List.set_cons_zero, List.set_cons_succ]
   refine wpAnyH_ready (rs := [9]) (by kernel_rfl) (by simp) ?_
   refine Hd.cons9 (fun K hK => ?_) ?_
   ·go_simp
    go_at_call 62
    (with_reducible refine Calls.mono (HCP.out _ ?hq_45) ?_); (case hq_45 => (repeat with_reducible first | exact hlc | exact Later.refl hpb | refine jm hpb ?_ | refine jo hpb ?_))
    rintro e wx ⟨o4, c4, rfl, hs4, hqx⟩
    (refine with_new (pb := pb) (X := X1) (most := most) (k := res.2) ?hm5_46 hqx hs4 ?_); (case hm5_46 => (repeat with_reducible first | exact hmk | refine ja ?_ | refine jb ?_))
    intro hs4
    (refine with_tf (X := X1) (most := most) (pb := pb) (k := res.2) ?hmt_47 hqx n00 gtf ?_); (case hmt_47 => (repeat with_reducible first | exact hmk | refine ja ?_ | refine jb ?_))
    intro gtf
    replace n00 := hqx.at n00; replace n01 := hqx.at n01; replace n02 := hqx.at n02
    (refine with_ml (pb := pb) (X := X1) (most := most) (k := res.2) (w0 := W2) ?hl2_48 ?hm2_49 hqx ?_); (case hm2_49 => (repeat with_reducible first | exact hmk | refine ja ?_ | refine jb ?_)); (case hl2_48 => (repeat with_reducible first | exact hlc | exact Later.refl hpb | refine jm hpb ?_ | refine jo hpb ?_))
    intro hlc hmk
    refine hK.out _ _ ?hS_50 (fun hHeld => ?_)
    case hS_50 => exact ⟨HSS.out _ hlc, n00, n01, n02⟩
    clear hK K
    (try simp only [Act.put, List.setIfInBounds_toArray, List.set_cons_zero, List.set_cons_succ])
    refine wpAnyH_ready (rs := [15]) (by kernel_rfl) (by simp) ?_
    refine Hd.cons15 (fun K hK => ?_) ?_
    ·go_simp
     go_at_call 66
     (with_reducible refine Calls.mono (HEQ1.out _ _ _ _ _ _ n0t ?hm_51 ?hs1_52) ?_); (case hm_51 => (repeat with_reducible first | exact hmk | refine ja ?_ | refine jb ?_)); (case hs1_52 => (repeat (first | with_reducible exact hs4 | ((with_reducible refine slc_st (pb := pb) (X := X1) (most := most) (k := res.2) ?hmS (Quiet0.alloc _ _) ?_); (case hmS => (repeat with_reducible first | exact hmk | refine ja ?_ | refine jb ?_))) | ((with_reducible refine slc_st (pb := pb) (X := X1) (most := most) (k := res.2) ?hmS (Quiet0.drew _) ?_); (case hmS => (repeat with_reducible first | exact hmk | refine ja ?_ | refine jb ?_))) | fail)))
     rintro e wx ⟨rfl, hmk, hlx⟩
     (refine with_lt (pb := pb) (w0 := W2) ?hl2_53 hlx ?_); (case hl2_53 => (repeat with_reducible first | exact hlc | exact Later.refl hpb | refine jm hpb ?_ | refine jo hpb ?_))
     intro hlc
     refine hK.out _ _ ?hS_54 (fun hHeld => ?_)
     case hS_54 => exact ⟨HSS.out _ hlc, cell_later gtf hlx n00, cell_later gtf hlx n01, cell_later gtf hlx n02⟩
     clear hK K
     (try simp only [Act.put, List.setIfInBounds_toArray, List.set_cons_zero, List.set_cons_succ])
     refine wpAnyH_done (by kernel_rfl) ?_ _
     go_wp2_with fail
     go_meet
     exact ⟨hmk, hlc⟩
    ·exact AllReadyH.nil
   ·exact AllReadyH.nil
  exact AllReadyH.nil
 case rest =>
  rename World => w3
  obtain ⟨hm3, hl3⟩ := hcut
  have HM3 := hid hm3
  have HL3 := hid hl3
  have hpb := hm3.lt
  clear hm3 hl3 f7 f8 a0 a1 a2 a3 a4 a5 a6 a7 a8 b0 b1 b2 q3
  clear hmk hlc
  have HSS3 : Hid (∀ W, Later pb w3 W -> (W.cell? ⟨B, 0, none⟩ = some (.int .i64 h.k) /\ W.cell? ⟨B, 1, none⟩ = some (.string h.nm) /\ W.cell? ⟨B, 2, none⟩ = some (.int .i64 h.n) /\ W.cell? ⟨B, 3, none⟩ = some (.int .i64 h.tk) /\ W.cell? ⟨B, 4, none⟩ = some (.int .i64 h.tn) /\ W.cell? ⟨B, 5, none⟩ = some (.slice o1 l1 c1) /\ W.cell? ⟨B, 6, none⟩ = some (.slice (some ⟨b9, off9, none⟩) l2 c2) /\ W.cell? ⟨B, 7, none⟩ = some (.int .i64 h.fr) /\ W.cell? ⟨B, 8, none⟩ = some (.int .i64 h.en)) /\ (W.cell? ⟨C, 0, none⟩ = some (.int .i64 1) /\ W.cell? ⟨C, 1, none⟩ = some (.int .i64 mk.next) /\ W.cell? ⟨C, 2, none⟩ = some (.slice oo 0 cc))) := fun W' hl => by
   have k := HSS.out W' (HL3.out.trans hl)
   exact ⟨k.1, k.2.1⟩
  have HCP3 : Hid (∀ W, Later pb w3 W -> Calls Tryz.prog 62 #[.agg #[.int .i64 h.tk, .int .i64 h.tn, .slice o1 l1 c1]] W (CoQ W h.tk h.tn l1 h.tp)) := fun W' hl => HCP.out W' (HL3.out.trans hl)
  obtain ⟨⟨a0, a1, a2, a3, a4, a5, a6, a7, a8⟩, ⟨b0, b1, b2⟩⟩ := HSS3.out w3 (Later.refl hpb)
  have hmk := HM3.out
  have hlc := Later.refl hpb
  clear HSS HCP HPT HEQ1
  go_upto_region 30 with fail
  go_region_held3 (fun W => (W.cell? ⟨B, 0, none⟩ = some (.int .i64 h.k) /\ W.cell? ⟨B, 1, none⟩ = some (.string h.nm) /\ W.cell? ⟨B, 2, none⟩ = some (.int .i64 h.n) /\ W.cell? ⟨B, 3, none⟩ = some (.int .i64 h.tk) /\ W.cell? ⟨B, 4, none⟩ = some (.int .i64 h.tn) /\ W.cell? ⟨B, 5, none⟩ = some (.slice o1 l1 c1) /\ W.cell? ⟨B, 6, none⟩ = some (.slice (some ⟨b9, off9, none⟩) l2 c2) /\ W.cell? ⟨B, 7, none⟩ = some (.int .i64 h.fr) /\ W.cell? ⟨B, 8, none⟩ = some (.int .i64 h.en)) /\ (W.cell? ⟨C, 0, none⟩ = some (.int .i64 1) /\ W.cell? ⟨C, 1, none⟩ = some (.int .i64 mk.next) /\ W.cell? ⟨C, 2, none⟩ = some (.slice oo 0 cc)))
   (((refine HSS3.out _ ?_); (repeat with_reducible first | exact hlc | exact Later.refl hpb | refine jm hpb ?_ | refine jo hpb ?_)))
   (first
    | (go_at_call 62; (with_reducible refine Calls.mono (HCP3.out _ ?hq) ?_); (case hq => (repeat with_reducible first | exact hlc | exact Later.refl hpb | refine jm hpb ?_ | refine jo hpb ?_)); rintro e wx ⟨o4, c4, rfl, hs4, hqx⟩; (refine with_new (pb := pb) (X := X1) (most := most) (k := mka) ?hm5 hqx hs4 ?_; (case hm5 => (repeat with_reducible first | exact hmk | refine ja ?_ | refine jb ?_)); intro hs4); (refine with_ml (pb := pb) (X := X1) (most := most) (k := mka) (w0 := w3) ?hl2 ?hm2 hqx ?_); (case hl2 => (repeat with_reducible first | exact hlc | exact Later.refl hpb | refine jm hpb ?_ | refine jo hpb ?_)); (case hm2 => (repeat with_reducible first | exact hmk | refine ja ?_ | refine jb ?_)); intro hlc hmk)
    | ((go_at_call 66; (with_reducible refine Calls.mono (HEQ2.out _ _ _ ?hm ?hs1) ?_)); (case hm => (repeat with_reducible first | exact hmk | refine ja ?_ | refine jb ?_)); (case hs1 => (repeat (first | with_reducible exact hs4 | ((with_reducible refine slc_st (pb := pb) (X := X1) (most := most) (k := mka) ?hmS (Quiet0.alloc _ _) ?_); (case hmS => (repeat with_reducible first | exact hmk | refine ja ?_ | refine jb ?_))) | ((with_reducible refine slc_st (pb := pb) (X := X1) (most := most) (k := mka) ?hmS (Quiet0.drew _) ?_); (case hmS => (repeat with_reducible first | exact hmk | refine ja ?_ | refine jb ?_))) | fail))); rintro e wx ⟨rfl, hmk, hlx⟩; (refine with_lt (pb := pb) (w0 := w3) ?hl2 hlx ?_); (case hl2 => (repeat with_reducible first | exact hlc | exact Later.refl hpb | refine jm hpb ?_ | refine jo hpb ?_)); intro hlc)
    | fail)
  all_goals
   have HM4 := hid hmk
   have HL4 := hid (HL3.out.trans hlc)
   clear hmk hlc
   obtain ⟨g0, g1, g2, _, _, _⟩ := box_cells3 (H7.out.later HL4.out).1
   have hb6 := (H62.out.later HL4.out).1
   have HB6 := hid hb6
   obtain ⟨d0, d1, d2, y0, y1, y2⟩ := box_cells3 hb6
   clear hb6
   go_wp2_with fail
   clear d0 d1 d2 y0 y1 y2
   have hf := put3_fr wx (B + 1) (.int .i64 1) (.int .i64 mk.next) (.slice oo 0 cc)
   obtain ⟨f0, f1, f2⟩ := put3_cells (a := .int .i64 1) (b := .int .i64 mk.next) (c := .slice oo 0 cc) HB6.out
   change bodyPost _ _ _ _ _ (put3 wx (B + 1) (.int .i64 1) (.int .i64 mk.next) (.slice oo 0 cc))
   generalize put3 wx (B + 1) (.int .i64 1) (.int .i64 mk.next) (.slice oo 0 cc) = wf at *
   refine bodyPost_ret (by simp [results, Tryz.results42, go_sem, f0, f1, f2]; rfl) rfl ?_
   have hp : pb < W.heap.size := by rw [hBB]; exact HP.out
   refine ⟨mk.next, oo, cc, by rw [HRES.out], rfl, ?_, (HL2.out.trans HL4.out).put hf hp (fun i hi => by omega)⟩
   rw [HRES.out]
   exact (HM4.out.put (hf.mono (fun i _ e => by rw [HX1.out]; exact Or.inr (by omega)))).less (fun i hi => by rw [HX1.out]; exact Or.inl hi)
end Em
end
section
open Go.RowKit
namespace Em
def TmM (h : Nd) (ps : To) : Prop := ∀ (W : World) (R X : Nat -> Prop) (most : Int) (pb : Nat) (mk : Mk) (o1 : Option Addr) (l1 c1 : Nat) (o2 : Option Addr) (l2 c2 : Nat) (eo : Option Addr) (en ec : Nat) (e : FEnv) (E : Env),
 SlcIn R W o1 l1 h.tp -> TSlc R W o2 l2 ps -> (∀ i, R i -> i < pb) -> MkE X most pb W mk -> most <= 4096 -> BfE pb W eo en e -> en <= ec -> en + ps.size <= 100000 -> EnvM most pb mk.next W e E -> okT h ps.length -> okTL ps -> Sc.free1 (names e) h ps = [] -> (termM most h ps E mk).2.next <= NBd -> mk.many = true ->
 Calls Tryz.prog 42 #[.pointer (some ⟨pb, 0, none⟩), tmv h o1 l1 c1 o2 l2 c2, .slice eo en ec] W (MkQ X most pb W (termM most h ps E mk))
theorem term_manyW (h : Nd) (ps : To) : TmM h ps := by
 intro W R X most pb mk o1 l1 c1 o2 l2 c2 eo en ec e E hs1 hs2 hR hm hmost hb hec hz hE hok hokl hfr hN hmany
 obtain ⟨W0, hW0⟩ : ∃ W0, W0 = (W.alloc (.cells (cells9 h o1 l1 c1 o2 l2 c2) 29)).alloc (.cells #[.int .i64 0, .int .i64 0, .slice none 0 0] 24) := ⟨_, rfl⟩
 have hq0 : Quiet0 W W0 := by rw [hW0]; exact (Quiet0.alloc _ _).trans (Quiet0.alloc _ _)
 have hz0 : W0.heap.size = W.heap.size + 2 := by rw [hW0]; simp
 have h4 : Bx pb W0 W.heap.size (cells9 h o1 l1 c1 o2 l2 c2) 29 := Bx.new hm hq0 (Nat.le_refl _) (by rw [hW0]; exact blk_after (Quiet0.alloc _ _) (heap_alloc_new W _))
 have h6 : Bx pb W0 (W.heap.size + 1) #[.int .i64 0, .int .i64 0, .slice none 0 0] 24 := Bx.new hm hq0 (by omega) (by
  rw [hW0]
  have := heap_alloc_new (W.alloc (.cells (cells9 h o1 l1 c1 o2 l2 c2) 29)) (.cells #[.int .i64 0, .int .i64 0, .slice none 0 0] 24)
  simpa using this)
 have hm0 := hm.more hq0 (fun i => i = W.heap.size + 1) (fun i hi => by subst hi; omega)
 have hp := hm.lt
 have hl0 := Later.of_quiet hq0 hp
 have hnx := (termM_nm most h ps E hE.ne mk).1
 have hnb : mk.next <= 500000000 := Nat.le_trans hnx hN
 have HTK := hid (take_any hm0 (by omega))
 have HL0 := hid hl0
 have H4 := hid h4
 have H6 := hid h6
 have HP := hid hp
 have HNB : Hid ((termM most h ps E mk).2.next <= NBd) := hN
 have HGO := hid (term_many most h ps E mk hmany)
 have HM0P := hid hm0.lt
 obtain ⟨X1, hX1⟩ : ∃ X1, X1 = (fun i => X i ∨ i = W.heap.size + 1) := ⟨_, rfl⟩
 have HX1 : Hid (∀ i, X1 i = (X i ∨ i = W.heap.size + 1)) := fun i => by rw [hX1]
 rw [<- hX1] at HTK
 clear hs1 hs2 hR hm hb hE hok hokl hfr hN hm0 hl0 hq0 h4 h6 hX1 hnx hp hz0 hmost
 obtain ⟨fin, hfin⟩ : ∃ fin, ({ mk with next := mk.next + 1 } : Mk) = fin := ⟨_, rfl⟩
 have HRES : Hid (termM most h ps E mk = (tv mk.next, fin)) := by show _ = _; rw [HGO.out, hfin]
 have HFIN := hid hfin
 clear hfin
 unfold tmv
 go_enter Tryz.func42, Tryz.ntmps42
 generalize hBB : W.heap.size = B at *
 go_upto_region 1 with fail
 rw [<- hW0]
 clear hW0
 go_wp2_with fail
 refine HTK.out.mono ?_; rintro x w1 ⟨n0, oo, cc, hn0, rfl, hm1, hl1⟩
 obtain rfl : mk.next = n0 := tv_inj hn0
 obtain ⟨W2, hW2⟩ : ∃ W2, W2 = w1.alloc (.cells #[.int .i64 1, .int .i64 mk.next, .slice oo 0 cc] 24) := ⟨_, rfl⟩
 have hq2 : Quiet0 w1 W2 := by rw [hW2]; exact Quiet0.alloc _ _
 have h7 : Bx pb W2 w1.heap.size #[.int .i64 1, .int .i64 mk.next, .slice oo 0 cc] 24 := Bx.new hm1 hq2 (Nat.le_refl _) (by rw [hW2]; exact heap_alloc_new w1 _)
 have H7 := hid h7
 have hm2 := hm1.stay hq2
 replace hm2 : MkE X1 most pb W2 { mk with next := mk.next + 1 } := hm2
 have hl2 := hl1.quiet hq2 HM0P.out
 have HM2 := hid hm2
 have HL2 := hid (HL0.out.trans hl2)
 have H42 := hid (H4.out.later hl2)
 have H62 := hid (H6.out.later hl2)
 have HP2 := hid hm2.lt
 clear hm1 hl1 hq2 h7 hm2 hl2 hn0 H4 H6 HL0 HTK
 unfold tyv
 go_upto_region 2 with fail
 change Code.wp _ _ _ _ (w1.alloc (.cells #[.int .i64 1, .int .i64 mk.next, .slice oo 0 cc] 24))
 rw [<- hW2]
 clear hW2
 generalize hC : w1.heap.size = C at *
 obtain ⟨ko, kc, kxs, hmka⟩ := HM2.out
 obtain ⟨_, _, _, q3⟩ := mk_cells hmka.box
 replace q3 : W2.cell? ⟨pb, 3, none⟩ = some (.bool true) := by rw [<- hmany]; exact q3
 obtain ⟨a0, a1, a2, a3, a4, a5, a6, a7, a8⟩ := cells9_block H42.out.1
 obtain ⟨b0, b1, b2, _, _, _⟩ := box_cells3 H7.out.1
 clear hmka
 have HM9 : Hid (MkE X1 most pb W2 fin) := by show MkE _ _ _ _ _; rw [<- HFIN.out]; exact HM2.out
 have HL9 := hid (Later.refl HP2.out)
 have hb6 := (H62.out.later HL9.out).1
 have HB6 := hid hb6
 obtain ⟨d0, d1, d2, y0, y1, y2⟩ := box_cells3 hb6
 clear hb6
 go_wp2_with fail
 clear d0 d1 d2 y0 y1 y2
 have hf := put3_fr W2 (B + 1) (.int .i64 1) (.int .i64 mk.next) (.slice oo 0 cc)
 obtain ⟨f0, f1, f2⟩ := put3_cells (a := .int .i64 1) (b := .int .i64 mk.next) (c := .slice oo 0 cc) HB6.out
 change bodyPost _ _ _ _ _ (put3 W2 (B + 1) (.int .i64 1) (.int .i64 mk.next) (.slice oo 0 cc))
 generalize put3 W2 (B + 1) (.int .i64 1) (.int .i64 mk.next) (.slice oo 0 cc) = wf at *
 refine bodyPost_ret (by simp [results, Tryz.results42, go_sem, f0, f1, f2]; rfl) rfl ?_
 have hp : pb < W.heap.size := by rw [hBB]; exact HP.out
 unfold MkQ
 refine ⟨mk.next, oo, cc, by rw [HRES.out], rfl, ?_, (HL2.out.trans HL9.out).put hf hp (fun i hi => by omega)⟩
 rw [HRES.out]
 exact (HM9.out.put (hf.mono (fun i _ e => by rw [HX1.out]; exact Or.inr (by omega)))).less (fun i hi => by rw [HX1.out]; exact Or.inl hi)
theorem termMk_any : ∀ (h : Nd) (ps : To), TmT h ps := fun h ps => by
 refine To.ind' (T := TmT) (fun h ps ih => ?_) h ps
 intro W R X most pb mk o1 l1 c1 o2 l2 c2 eo en ec e E a1 a2 a3 a4 a5 a6 a7 a8 a9 a10 a11 a12 a13
 cases hm : mk.many
 ·have hk := a10.1
  have key : TmN h ps := by
   rcases (show h.k = 1 ∨ h.k = 2 ∨ h.k = 3 ∨ h.k = 4 ∨ h.k = 5 ∨ h.k = 6 ∨ h.k = 7 ∨ h.k = 8 ∨ h.k = 9 ∨ h.k = 10 by omega) with k | k | k | k | k | k | k | k | k | k
   ·exact term_var h ps k
   ·exact term_int h ps k
   ·exact term_bool h ps k
   ·exact term_lam h ps ih k
   ·exact term_app h ps ih k
   ·exact term_let h ps ih k
   ·exact term_rec h ps ih k
   ·exact term_if h ps ih k
   ·exact term_tuple h ps ih k
   ·exact term_ann h ps ih k
  exact key W R X most pb mk o1 l1 c1 o2 l2 c2 eo en ec e E a1 a2 a3 a4 a5 a6 a7 a8 a9 a10 a11 a12 a13 hm
 ·exact term_manyW h ps W R X most pb mk o1 l1 c1 o2 l2 c2 eo en ec e E a1 a2 a3 a4 a5 a6 a7 a8 a9 a10 a11 a12 a13 hm
end Em
end
section
open Go.RowKit
namespace Em
def EqsAt (w : World) (o : Option Addr) (l : List Eqn) : Prop := l.length <= 4096 /\ (∀ t ∈ l, t.1.2.2.size <= 100000 /\ t.2.1.2.2.size <= 100000) /\ (l = [] ∨ ∃ b off, o = some ⟨b, off, none⟩ /\ QAt (fun _ => True) w b off l)
theorem QAt.stay {w w' : World} {b off : Nat} {l : List Eqn} (h : QAt (fun _ => True) w b off l) (hq : Quiet0 w w') : QAt (fun _ => True) w' b off l := by
 intro i t hi
 obtain ⟨o1, l1, c1, o2, l2, c2, s1, s2, a0, a1, a2, a3, a4, a5, a6, a7⟩ := h i t hi
 exact ⟨o1, l1, c1, o2, l2, c2, s1.stay hq, s2.stay hq, hq.at a0, hq.at a1, hq.at a2, hq.at a3, hq.at a4, hq.at a5, hq.at a6, hq.at a7⟩
theorem EqsAt.stay {w w' : World} {o : Option Addr} {l : List Eqn} (h : EqsAt w o l) (hq : Quiet0 w w') : EqsAt w' o l := by
 refine ⟨h.1, h.2.1, h.2.2.imp id ?_⟩
 rintro ⟨b, off, h1, h2⟩
 exact ⟨b, off, h1, h2.stay hq⟩
theorem EqsAt.nil (w : World) (o : Option Addr) : EqsAt w o [] := ⟨Nat.zero_le _, fun t ht => (by cases ht), .inl rfl⟩
theorem MkE.eqs {X : Nat -> Prop} {most : Int} {pb : Nat} {W : World} {k : Mk} {o : Option Addr} {c : Nat} {xs : List Value} (h : MkAt X most pb W k o c xs) : EqsAt W o k.eqs /\ k.eqs.length <= c := by
 rcases h.form with ⟨h1, h2, h3⟩ | ⟨g, h1, _, _, h4⟩
 ·exact ⟨⟨h.few, h.small, .inl (List.eq_nil_of_length_eq_zero h2)⟩, by omega⟩
 ·subst h1
  refine ⟨⟨h.few, h.small, .inr ⟨g, 0, rfl, ?_⟩⟩, h4⟩
  have hq : QAt (TF X pb W) W g 0 k.eqs := QAt.of_row h.cells (fun j u hj => by
   have := h.own.cells (g := g) rfl j u hj
   simpa [Addr.add_lit] using this)
  intro i t hi
  obtain ⟨o1, l1, c1, o2, l2, c2, s1, s2, a⟩ := hq i t hi
  exact ⟨o1, l1, c1, o2, l2, c2, s1.mono (fun _ _ _ => trivial), s2.mono (fun _ _ _ => trivial), a⟩
def OfQ (w : World) (r : List Eqn × Int) (x : Ending) (w' : World) : Prop := ∃ o c, x = .returned (.tuple #[.slice o r.1.length c, .int .i64 r.2]) /\ r.1.length <= c /\ EqsAt w' o r.1 /\ Quiet0 w w'
theorem ofQ_nil (w w' : World) (er : Int) (hq : Quiet0 w w') : OfQ w ([], er) (.returned (.tuple #[.slice none 0 0, .int .i64 er])) w' := ⟨none, 0, rfl, Nat.le_refl _, EqsAt.nil _ _, hq⟩
theorem mk_new {W : World} {m : Int} : MkE (fun _ => False) m W.heap.size (W.alloc (.cells #[.slice none 0 0, .int .i64 0, .int .i64 m, .bool false] 81)) ⟨[], 0, false⟩ :=
 ⟨none, 0, [], heap_alloc_new W _, World.ownsRow_nil _ _ _ _, fun g hg => (by cases hg), rfl, Nat.zero_le _, fun t ht => (by cases ht), fun i hi => hi.elim, fun h => h⟩
theorem of_any (h : Nd) (ps : To) (most : Int) (w : World) (R : Nat -> Prop) (o1 : Option Addr) (l1 c1 : Nat) (o2 : Option Addr) (l2 c2 : Nat) (hs1 : SlcIn R w o1 l1 h.tp) (hs : TSlc R w o2 l2 ps) (hz : ps.size <= 50000) (hg : allT GoodH (.cons h ps .nil)) (ht : Lx.Spaces w) :
    Calls Tryz.prog 19 #[tmv h o1 l1 c1 o2 l2 c2, .int .i64 most] w (OfQ w (ofN h ps most)) := by
 obtain ⟨W0, hW0⟩ : ∃ W0, W0 = w.alloc (.cells (cells9 h o1 l1 c1 o2 l2 c2) 29) := ⟨_, rfl⟩
 have HQ0 : Hid (Quiet0 w W0) := by rw [hW0]; exact Quiet0.alloc _ _
 have HB0 : Hid (W0.heap[w.heap.size]? = some (.cells (cells9 h o1 l1 c1 o2 l2 c2) 29 (0, 0))) := by show _ = _; rw [hW0]; exact heap_alloc_new w _
 have HRS := hid (Sc.resolve_any h ps W0 R o1 l1 c1 o2 l2 c2 (hs1.stay HQ0.out) (hs.stay HQ0.out) (by omega) hg (ht.stay HQ0.out))
 obtain ⟨m, hm⟩ : ∃ m, min most 4096 = m := ⟨_, rfl⟩
 obtain ⟨fin, hfin⟩ : ∃ fin, (termM m h ps [] ⟨[], 0, false⟩).2 = fin := ⟨_, rfl⟩
 have HM : Hid (m <= 4096) := by show m <= 4096; omega
 have HOF : Hid (ofN h ps most = if (Sc.rsvP h ps).2.2 = 0 then (if fin.many then ([], 6) else (fin.eqs, 0)) else ([], (Sc.rsvP h ps).2.2)) := by
  show _ = _
  unfold ofN
  rw [hm, hfin]
 have HTM : Hid ((Sc.rsvP h ps).2.2 = 0 -> ∀ W pb, Quiet0 w W -> w.heap.size <= pb -> MkE (fun _ => False) m pb W ⟨[], 0, false⟩ -> Calls Tryz.prog 42 #[.pointer (some ⟨pb, 0, none⟩), tmv h o1 l1 c1 o2 l2 c2, .slice none 0 0] W fun x w' => (∃ v, x = .returned v) /\ MkE (fun _ => False) m pb w' fin /\ Later pb W w') := fun h0 W pb hq hpb hmk => by
  obtain ⟨hrt, hfr⟩ := rsv0 h0
  have hok := okT_of _ hrt hg
  have hkk := okK_of _ hrt
  have hnx := run_next (M := 4096) HM.out h ps hkk
  have hr : ∀ i, (R i /\ i < w.heap.size) -> i < pb := fun i hi => by omega
  refine (termMk_any h ps W (fun i => R i /\ i < w.heap.size) (fun _ => False) m pb ⟨[], 0, false⟩ o1 l1 c1 o2 l2 c2 none 0 0 [] [] ((hs1.mono (fun i hi hk => ⟨hk, hi⟩)).stay hq) ((hs.mono (fun i hi hk => ⟨hk, hi⟩)).stay hq) hr hmk HM.out (BfIn.nil _ _ _) (Nat.le_refl _) (by omega) .nil hok.1 hok.2.1 hfr (Nat.le_trans hnx (by unfold NBd; omega))).mono ?_
  rintro x w' ⟨n, o, c, _, rfl, h1, h2⟩
  rw [hfin] at h1
  exact ⟨⟨_, rfl⟩, h1, h2⟩
 obtain ⟨res, hres⟩ : ∃ res, ofN h ps most = res := ⟨_, rfl⟩
 have HRES := hid hres
 have hmn : most <= 4096 ∨ 4096 < most := by omega
 rw [hres]
 clear hs1 hs hg ht hres hz hfin
 unfold tmv at HTM ⊢
 unfold tmv at HRS
 go_enter Tryz.func19, Tryz.ntmps19
 go_upto_region 1 with fail
 rw [<- hW0]
 clear hW0
 generalize hBB : w.heap.size = B at *
 have HBE := hid hBB
 clear hBB
 obtain ⟨a0, a1, a2, a3, a4, a5, a6, a7, a8⟩ := cells9_block HB0.out
 go_wp2_with fail
 refine HRS.out.mono ?_; rintro x w1 ⟨g, gs, q1, m1, d1, q2, m2, d2, p, er, rfl, hrv, hg1, hg2, hq1⟩
 unfold tmv
 have HER : Hid ((Sc.rsvP h ps).2.2 = er) := by show _ = _; rw [hrv]
 have hq2 : Quiet0 W0 ((w1.alloc (.cells (cells9 g q1 m1 d1 q2 m2 d2) 29)).alloc (.cells #[.int .i64 p.1, .int .i64 p.2] 27)) := hq1.trans ((Quiet0.alloc _ _).trans (Quiet0.alloc _ _))
 have HQ2 := hid hq2
 clear hrv hg1 hg2 hq1 hq2 a0 a1 a2 a3 a4 a5 a6 a7 a8
 go_upto_region 2 with fail
 change Code.wp _ _ _ _ ((w1.alloc (.cells (cells9 g q1 m1 d1 q2 m2 d2) 29)).alloc (.cells #[.int .i64 p.1, .int .i64 p.2] 27))
 generalize (w1.alloc (.cells (cells9 g q1 m1 d1 q2 m2 d2) 29)).alloc (.cells #[.int .i64 p.1, .int .i64 p.2] 27) = W2 at *
 by_cases he : er = 0
 ·have he2 : (er != 0) = false := by simp [he]
  have HFE : Hid (res = if fin.many then ([], 6) else (fin.eqs, 0)) := by show _ = _; rw [<- HRES.out, HOF.out, if_pos (by rw [HER.out]; exact he)]
  have HT0 := hid (HTM.out (by rw [HER.out]; exact he))
  clear he HTM
  obtain ⟨W3, hW3⟩ : ∃ W3, W3 = W2.alloc (.cells #[.slice none 0 0, .int .i64 0, .int .i64 m, .bool false] 81) := ⟨_, rfl⟩
  have hq3 : Quiet0 W2 W3 := by rw [hW3]; exact Quiet0.alloc _ _
  have hm3 : MkE (fun _ => False) m W2.heap.size W3 ⟨[], 0, false⟩ := by rw [hW3]; exact mk_new
  have hqw := HQ0.out.trans (HQ2.out.trans hq3)
  have hBz : w.heap.size <= W2.heap.size := (HQ0.out.trans HQ2.out).size
  have HC := hid (HT0.out W3 W2.heap.size hqw (by rw [<- HBE.out]; exact hBz) hm3)
  have HQW := hid hqw
  have HBZ := hid hBz
  have HRW : Hid (∀ i, ¬ Rw W2.heap.size W3 i) := fun i hi => by
   obtain ⟨n, c, e⟩ := hi
   rw [hW3, cell_of_row _ _ _ _ _ (0, 0) (heap_alloc_new W2 _)] at e
   simp at e
  have hb3 := blk_after (HQ2.out.trans hq3) HB0.out
  obtain ⟨a0, a1, a2, a3, a4, a5, a6, a7, a8⟩ := cells9_block hb3
  clear hm3 hqw HT0 hb3 hq3 hBz
  have hmi : (if most <= 4096 then most else 4096) = m := by rw [<- hm]; by_cases hh : most <= 4096 <;> simp [hh] <;> omega
  rcases hmn with hle | hlt
  ·obtain rfl : most = m := by omega
   go_upto_region 5 with fail
   change Code.wp _ _ _ _ (W2.alloc (.cells #[.slice none 0 0, .int .i64 0, .int .i64 most, .bool false] 81))
   rw [<- hW3]
   clear hW3
   generalize W2.heap.size = pb at *
   go_wp2_with fail
   refine HC.out.mono ?_; rintro x w5 ⟨⟨v, rfl⟩, hm5, hl5⟩
   obtain ⟨o5, c5, xs5, hmk5⟩ := hm5
   obtain ⟨q0, q1, q2, q3⟩ := mk_cells hmk5.box
   have HEQ5 := hid (MkE.eqs hmk5)
   have HQ5 : Hid (Quiet0 w w5) := Fr.trans' HQW.out hl5.fr (fun i hi e => e.elim (fun e => by have := HBZ.out; omega) (fun e => HRW.out i e))
   clear hmk5 hl5 a0 a1 a2 a3 a4 a5 a6 a7 a8
   obtain ⟨many, hmany⟩ : ∃ many, fin.many = many := ⟨_, rfl⟩
   rw [hmany] at q3
   have HMY := hid hmany
   clear hmany
   cases many
   ·have HRS2 : Hid (res = (fin.eqs, 0)) := by show _ = _; rw [HFE.out, HMY.out]; rfl
    go_wp2_with fail
    refine bodyPost_ret (by first | (simp [results, Tryz.results19, go_sem]; done) | (simp [results, Tryz.results19, go_sem]; rfl)) rfl ?_
    rw [HRS2.out]
    exact ⟨o5, c5, rfl, HEQ5.out.2, HEQ5.out.1, HQ5.out⟩
   ·have HRS2 : Hid (res = ([], 6)) := by show _ = _; rw [HFE.out, HMY.out]; rfl
    go_wp2_with fail
    refine bodyPost_ret (by first | (simp [results, Tryz.results19, go_sem]; done) | (simp [results, Tryz.results19, go_sem]; rfl)) rfl ?_
    rw [HRS2.out]
    exact ofQ_nil _ _ _ HQ5.out
  ·obtain rfl : (4096 : Int) = m := by omega
   go_upto_region 5 with fail
   change Code.wp _ _ _ _ (W2.alloc (.cells #[.slice none 0 0, .int .i64 0, .int .i64 4096, .bool false] 81))
   rw [<- hW3]
   clear hW3
   generalize W2.heap.size = pb at *
   go_wp2_with fail
   refine HC.out.mono ?_; rintro x w5 ⟨⟨v, rfl⟩, hm5, hl5⟩
   obtain ⟨o5, c5, xs5, hmk5⟩ := hm5
   obtain ⟨q0, q1, q2, q3⟩ := mk_cells hmk5.box
   have HEQ5 := hid (MkE.eqs hmk5)
   have HQ5 : Hid (Quiet0 w w5) := Fr.trans' HQW.out hl5.fr (fun i hi e => e.elim (fun e => by have := HBZ.out; omega) (fun e => HRW.out i e))
   clear hmk5 hl5 a0 a1 a2 a3 a4 a5 a6 a7 a8
   obtain ⟨many, hmany⟩ : ∃ many, fin.many = many := ⟨_, rfl⟩
   rw [hmany] at q3
   have HMY := hid hmany
   clear hmany
   cases many
   ·have HRS2 : Hid (res = (fin.eqs, 0)) := by show _ = _; rw [HFE.out, HMY.out]; rfl
    go_wp2_with fail
    refine bodyPost_ret (by first | (simp [results, Tryz.results19, go_sem]; done) | (simp [results, Tryz.results19, go_sem]; rfl)) rfl ?_
    rw [HRS2.out]
    exact ⟨o5, c5, rfl, HEQ5.out.2, HEQ5.out.1, HQ5.out⟩
   ·have HRS2 : Hid (res = ([], 6)) := by show _ = _; rw [HFE.out, HMY.out]; rfl
    go_wp2_with fail
    refine bodyPost_ret (by first | (simp [results, Tryz.results19, go_sem]; done) | (simp [results, Tryz.results19, go_sem]; rfl)) rfl ?_
    rw [HRS2.out]
    exact ofQ_nil _ _ _ HQ5.out
 ·have he2 : (er != 0) = true := by simp [he]
  have HFE : Hid (res = ([], er)) := by show _ = _; rw [<- HRES.out, HOF.out, if_neg (by rw [HER.out]; exact he), HER.out]
  clear he
  go_wp2_with fail
  refine bodyPost_ret (by first | (simp [results, Tryz.results19, go_sem]; done) | (simp [results, Tryz.results19, go_sem]; rfl)) rfl ?_
  rw [HFE.out]
  exact ofQ_nil _ _ _ (HQ0.out.trans HQ2.out)
end Em
end
end Go.Proofs.YtcninopmelmajaaGreatDoor
