/-
  Texts laid together (EqTAnn, EqAll, EqOf, EqVars, TeRoom, Law, TyOpen): laws and walks, with their conditions.
-/
import Derived.ProofKit
import Derived.OpenShut
import Derived.Deep.Slices
import Derived.Test.YtcninopmelmajaaGreatDoorRows
import Derived.Test.YtcninopmelmajaaGreatDoorAG15
set_option maxHeartbeats 8000000
set_option maxRecDepth 1000000
namespace Go.Proofs.YtcninopmelmajaaGreatDoor
open Go.Lib (hid)
section
open Go.RowKit
namespace Em
theorem term_ann (h : Nd) (ps : To) (ih : ∀ i g qs, ps.get i = some (g, qs) -> TmT g qs) (hk : h.k = 10) : TmN h ps := by
 intro W R X most pb mk o1 l1 c1 o2 l2 c2 eo en ec e E hs1 hs2 hR hm hmost hb hec hz hE hok hokl hfr hN hmany
 obtain ⟨W0, hW0⟩ : ∃ W0, W0 = (W.alloc (.cells (cells9 h o1 l1 c1 o2 l2 c2) 29)).alloc (.cells #[.int .i64 0, .int .i64 0, .slice none 0 0] 24) := ⟨_, rfl⟩
 have hq0 : Quiet0 W W0 := by rw [hW0]; exact (Quiet0.alloc _ _).trans (Quiet0.alloc _ _)
 have hz0 : W0.heap.size = W.heap.size + 2 := by rw [hW0]; simp
 have h4 : Bx pb W0 W.heap.size (cells9 h o1 l1 c1 o2 l2 c2) 29 := Bx.new hm hq0 (Nat.le_refl _) (by rw [hW0]; exact blk_after (Quiet0.alloc _ _) (heap_alloc_new W _))
 have h6 : Bx pb W0 (W.heap.size + 1) #[.int .i64 0, .int .i64 0, .slice none 0 0] 24 := Bx.new hm hq0 (by omega) (by
  rw [hW0]
  have := heap_alloc_new (W.alloc (.cells (cells9 h o1 l1 c1 o2 l2 c2) 29)) (.cells #[.int .i64 0, .int .i64 0, .slice none 0 0] 24)
  simpa using this)
 have hm0 := hm.more hq0 (fun i => i = W.heap.size + 1) (fun i hi => by subst hi; omega)
 have hp := hm.lt
 have hl0 := Later.of_quiet hq0 hp
 have hnx := (termM_nm most h ps E hE.ne mk).1
 have hnb : mk.next <= 500000000 := Nat.le_trans hnx hN
 have HTK := hid (take_any hm0 (by omega))
 have HM := hid hm
 have HL0 := hid hl0
 have H4 := hid h4
 have H6 := hid h6
 have HP := hid hp
 have HS1 := hid hs1
 have HS2 := hid hs2
 have HR := hid hR
 have HBF := hid hb
 have HE := hid hE
 have HOK := hid hok
 have HOKL := hid hokl
 have HFR := hid hfr
 have HNB : Hid ((termM most h ps E mk).2.next <= NBd) := hN
 have HMO := hid hmost
 have HK := hid hk
 have HGO := hid (term_go most h ps E mk hmany)
 have HM0P := hid hm0.lt
 have t2 : (h.k == 2) = false := by rw [hk]; rfl
 have t3 : (h.k == 3) = false := by rw [hk]; rfl
 have t1 : (h.k == 1) = false := by rw [hk]; rfl
 have t4 : (h.k == 4) = false := by rw [hk]; rfl
 have t6 : (h.k == 6) = false := by rw [hk]; rfl
 have t7 : (h.k == 7) = false := by rw [hk]; rfl
 have t5 : (h.k == 5) = false := by rw [hk]; rfl
 have t8 : (h.k == 8) = false := by rw [hk]; rfl
 have t9 : (h.k == 9) = false := by rw [hk]; rfl
 have t10 : (h.k == 10) = true := by rw [hk]; rfl
 obtain ⟨X1, hX1⟩ : ∃ X1, X1 = (fun i => X i ∨ i = W.heap.size + 1) := ⟨_, rfl⟩
 have HX1 : Hid (∀ i, X1 i = (X i ∨ i = W.heap.size + 1)) := fun i => by rw [hX1]
 rw [<- hX1] at HTK
 clear hs1 hs2 hR hm hb hE hok hokl hfr hN hm0 hl0 hq0 h4 h6 hX1 hnx hk hp hz0 hmost
 have HFP : Hid (∀ j g qs, ps.get j = some (g, qs) -> Sc.free1 (names e) g qs = []) := fun j g qs hg => by
  have k := free_of HFR.out (by rw [HK.out]; decide) hg
  rwa [envOf_same _ _ (by rw [HK.out]; exact not_binds (by decide) (by decide) (by decide) j)] at k
 have IH := hid ih
 clear ih
 obtain ⟨res, hres⟩ : ∃ res, mapE E (valsM most ps) { mk with next := mk.next + 1 } = res := ⟨_, rfl⟩
 obtain ⟨fin, hfin⟩ : ∃ fin, (eqP most (tv mk.next) (h.tk, h.tn, h.tp) h.fr h.en (eqP most (tat res.1 0) (h.tk, h.tn, h.tp) (spanAt ps 0).1 (spanAt ps 0).2 res.2).2).2 = fin := ⟨_, rfl⟩
 have HRES : Hid (termM most h ps E mk = (tv mk.next, fin)) := by show _ = _; rw [HGO.out, body_ann HK.out, hres, hfin]
 have HRL : Hid (res.1.length = l2) := by show _ = _; rw [<- hres, mapE_length, valsM_length, HS2.out.1]
 have HRN : Hid (res.2.next <= NBd) := by
  show _ <= _
  have k := HNB.out
  rw [HRES.out] at k
  rw [<- hfin] at k
  simpa only [eqP_nx] using k
 have HEQR := hid hres
 have HFIN := hid hfin
 have hl2 : 1 <= l2 := by rw [HS2.out.1]; exact HOK.out.2.2.2.2.2.2.1 HK.out
 have hi0 : (0 : Int) < l2 := by omega
 have hj0 : 0 < l2 := by omega
 have hlz : l2 <= 100000 := by have := To.length_le ps; have := HS2.out.1; omega
 clear hres hfin
 unfold MkQ
 unfold tmv
 go_enter Tryz.func42, Tryz.ntmps42
 generalize hBB : W.heap.size = B at *
 go_upto_region 1 with fail
 rw [<- hW0]
 clear hW0
 go_wp2_with fail
 refine HTK.out.mono ?_; rintro x w1 ⟨n0, oo, cc, hn0, rfl, hm1, hl1⟩
 obtain rfl : mk.next = n0 := tv_inj hn0
 obtain ⟨W2, hW2⟩ : ∃ W2, W2 = w1.alloc (.cells #[.int .i64 1, .int .i64 mk.next, .slice oo 0 cc] 24) := ⟨_, rfl⟩
 have hq2 : Quiet0 w1 W2 := by rw [hW2]; exact Quiet0.alloc _ _
 have h7 : Bx pb W2 w1.heap.size #[.int .i64 1, .int .i64 mk.next, .slice oo 0 cc] 24 := Bx.new hm1 hq2 (Nat.le_refl _) (by rw [hW2]; exact heap_alloc_new w1 _)
 have H7 := hid h7
 have hm2 := hm1.stay hq2
 replace hm2 : MkE X1 most pb W2 { mk with next := mk.next + 1 } := hm2
 have hl2 := hl1.quiet hq2 HM0P.out
 have HM2 := hid hm2
 have HL2 := hid (HL0.out.trans hl2)
 have H42 := hid (H4.out.later hl2)
 have H62 := hid (H6.out.later hl2)
 have HP2 := hid hm2.lt
 clear hm1 hl1 hq2 h7 hm2 hl2 hn0 H4 H6 HL0 HTK
 unfold tyv
 go_upto_region 2 with fail
 change Code.wp _ _ _ _ (w1.alloc (.cells #[.int .i64 1, .int .i64 mk.next, .slice oo 0 cc] 24))
 rw [<- hW2]
 clear hW2
 generalize hC : w1.heap.size = C at *
 obtain ⟨ko, kc, kxs, hmka⟩ := HM2.out
 obtain ⟨_, _, _, q3⟩ := mk_cells hmka.box
 replace q3 : W2.cell? ⟨pb, 3, none⟩ = some (.bool false) := by rw [<- hmany]; exact q3
 obtain ⟨a0, a1, a2, a3, a4, a5, a6, a7, a8⟩ := cells9_block H42.out.1
 obtain ⟨b0, b1, b2, _, _, _⟩ := box_cells3 H7.out.1
 clear hmka
 have HPT : Hid (∀ W, Later pb W2 W -> MkE X1 most pb W { mk with next := mk.next + 1 } -> Calls Tryz.prog 71 #[.pointer (some ⟨pb, 0, none⟩), tmv h o1 l1 c1 o2 l2 c2, .slice eo en ec] W (AnQ X1 most pb W l2 res)) := fun W' hl hmw => by
  have hl' := HL2.out.trans hl
  have k := parts_any h ps IH.out W' R X1 most pb { mk with next := mk.next + 1 } o1 l1 c1 o2 l2 c2 eo en ec e E (tslc_later HS2.out HR.out HM.out hl') HR.out hmw HMO.out (HBF.out.later hl') hec hz (HE.out.later hl' (Nat.le_succ _)) HOKL.out HFP.out (by rw [HEQR.out]; exact HRN.out)
  rw [HEQR.out] at k
  refine k.mono ?_
  rintro x w' ⟨o, c, rfl, hcl, hpt, hm3, hl3⟩
  have hgt := hpt.get (i := 0) (by rw [HRL.out]; omega)
  obtain ⟨gp, n0, n0o, n0c, rfl, n0t, n00, n01, n02⟩ := hgt
  rw [HRL.out]
  exact ⟨gp, c, n0, n0o, n0c, rfl, n0t, hpt.tf rfl (by rw [HRL.out]; omega), n00, n01, n02, hm3, hl3⟩
 unfold tmv at HPT
 obtain ⟨b9, off9, u, qu, p1u, m1u, d1u, p2u, m2u, d2u, e9, _, gu, ru, cu, _, tu⟩ := HS2.out.nth (i := 0) (by omega)
 subst e9
 have hb9 := HR.out b9 ru
 have hsp : spanAt ps 0 = (u.fr, u.en) := by unfold spanAt; rw [gu]
 obtain ⟨mka, hmka⟩ : ∃ mka, (eqP most (tat res.1 0) (h.tk, h.tn, h.tp) u.fr u.en res.2).2 = mka := ⟨_, rfl⟩
 have HMKA := hid hmka
 have HFIN2 : Hid ((eqP most (tv mk.next) (h.tk, h.tn, h.tp) h.fr h.en mka).2 = fin) := by show _ = _; rw [<- hmka, <- HFIN.out, hsp]
 have htz : h.tp.size <= 100000 := HOK.out.2.2.2.2.2.2.2
 have HCP : Hid (∀ W, Later pb W2 W -> Calls Tryz.prog 62 #[.agg #[.int .i64 h.tk, .int .i64 h.tn, .slice o1 l1 c1]] W (CoQ W h.tk h.tn l1 h.tp)) := fun W' hl => copy_any h.tk h.tn h.tp W' o1 l1 c1 (slcin_later HS1.out HR.out HM.out (HL2.out.trans hl)).slc (by omega)
 have HEQ1 : Hid (∀ (W : World) (n0 : Nat) (n0o : Option Addr) (n0c : Nat) (o4 : Option Addr) (c4 : Nat), tat res.1 0 = tv n0 -> MkE X1 most pb W res.2 -> SlcIn (TF X1 pb W) W o4 l1 h.tp -> Calls Tryz.prog 66 #[.pointer (some ⟨pb, 0, none⟩), .agg #[.int .i64 1, .int .i64 n0, .slice n0o 0 n0c], .agg #[.int .i64 h.tk, .int .i64 h.tn, .slice o4 l1 c4], .agg #[.int .i64 u.fr, .int .i64 u.en]] W (MkU X1 most pb W mka)) := fun W n0 n0o n0c o4 c4 ht hmw hs => by
  have k := equate_any (o1 := n0o) (l1 := 0) (c1 := n0c) (c2 := c4) hmw HMO.out (tv n0) (h.tk, h.tn, h.tp) u.fr u.en (SlcIn.nil _ _ _) hs (Nat.le_of_ble_eq_true rfl) htz
  rw [<- ht, HMKA.out] at k
  rw [ht] at k
  exact k
 have HEQ2 : Hid (∀ (W : World) (o4 : Option Addr) (c4 : Nat), MkE X1 most pb W mka -> SlcIn (TF X1 pb W) W o4 l1 h.tp -> Calls Tryz.prog 66 #[.pointer (some ⟨pb, 0, none⟩), .agg #[.int .i64 1, .int .i64 mk.next, .slice oo 0 cc], .agg #[.int .i64 h.tk, .int .i64 h.tn, .slice o4 l1 c4], .agg #[.int .i64 h.fr, .int .i64 h.en]] W (MkU X1 most pb W fin)) := fun W o4 c4 hmw hs => by
  have k := equate_any (o1 := oo) (l1 := 0) (c1 := cc) (c2 := c4) hmw HMO.out (tv mk.next) (h.tk, h.tn, h.tp) h.fr h.en (SlcIn.nil _ _ _) hs (Nat.le_of_ble_eq_true rfl) htz
  rw [HFIN2.out] at k
  exact k
 have HSS : Hid (∀ W, Later pb W2 W -> (W.cell? ⟨B, 0, none⟩ = some (.int .i64 h.k) /\ W.cell? ⟨B, 1, none⟩ = some (.string h.nm) /\ W.cell? ⟨B, 2, none⟩ = some (.int .i64 h.n) /\ W.cell? ⟨B, 3, none⟩ = some (.int .i64 h.tk) /\ W.cell? ⟨B, 4, none⟩ = some (.int .i64 h.tn) /\ W.cell? ⟨B, 5, none⟩ = some (.slice o1 l1 c1) /\ W.cell? ⟨B, 6, none⟩ = some (.slice (some ⟨b9, off9, none⟩) l2 c2) /\ W.cell? ⟨B, 7, none⟩ = some (.int .i64 h.fr) /\ W.cell? ⟨B, 8, none⟩ = some (.int .i64 h.en)) /\ (W.cell? ⟨C, 0, none⟩ = some (.int .i64 1) /\ W.cell? ⟨C, 1, none⟩ = some (.int .i64 mk.next) /\ W.cell? ⟨C, 2, none⟩ = some (.slice oo 0 cc)) /\ (W.cell? ⟨b9, off9 + 7, none⟩ = some (.int .i64 u.fr) /\ W.cell? ⟨b9, off9 + 8, none⟩ = some (.int .i64 u.en))) := fun W' hl => by
  obtain ⟨k0, k1, k2, _⟩ := box_cells3 (H7.out.later hl).1
  obtain ⟨_, _, _, _, _, _, _, f7, f8⟩ := cells_later cu hb9 HM.out (HL2.out.trans hl)
  exact ⟨cells9_block (H42.out.later hl).1, ⟨k0, k1, k2⟩, f7, f8⟩
 have hpb := HP2.out
 obtain ⟨_, _, f7, f8⟩ := HSS.out W2 (Later.refl hpb)
 have hmk := HM2.out
 have hlc := Later.refl hpb
 clear hmka hsp hb9 cu tu gu ru
 go_upto_region 29 with fail
 go_cut [] (fun wx => MkE X1 most pb wx mka /\ Later pb W2 wx)
 case first =>
  refine wp_region_held_drew (S := (fun (W : World) => (W.cell? ⟨B, 0, none⟩ = some (.int .i64 h.k) /\ W.cell? ⟨B, 1, none⟩ = some (.string h.nm) /\ W.cell? ⟨B, 2, none⟩ = some (.int .i64 h.n) /\ W.cell? ⟨B, 3, none⟩ = some (.int .i64 h.tk) /\ W.cell? ⟨B, 4, none⟩ = some (.int .i64 h.tn) /\ W.cell? ⟨B, 5, none⟩ = some (.slice o1 l1 c1) /\ W.cell? ⟨B, 6, none⟩ = some (.slice (some ⟨b9, off9, none⟩) l2 c2) /\ W.cell? ⟨B, 7, none⟩ = some (.int .i64 h.fr) /\ W.cell? ⟨B, 8, none⟩ = some (.int .i64 h.en)) /\ (W.cell? ⟨C, 0, none⟩ = some (.int .i64 1) /\ W.cell? ⟨C, 1, none⟩ = some (.int .i64 mk.next) /\ W.cell? ⟨C, 2, none⟩ = some (.slice oo 0 cc)) /\ (W.cell? ⟨b9, off9 + 7, none⟩ = some (.int .i64 u.fr) /\ W.cell? ⟨b9, off9 + 8, none⟩ = some (.int .i64 u.en)))) (by kernel_rfl) ?hS0_1 (fun hHeld => ?_)
  case hS0_1 => exact HSS.out _ (Later.of_quiet (Quiet0.drew W2) HP2.out)
  (try dsimp only at hHeld)
  refine Hd.take0 (v := ?v_2) (by kernel_rfl) (by kernel_rfl) (by kernel_rfl) (fun _ _ _ h => h) (Or.inl ⟨by rfl, ?hy_3⟩) (by assumption) ?rest_4
  case hy_3 => (intro w hSw; (try dsimp only at hSw); go_simp <;> with_reducible rfl)
  simp only [Act.put, List.setIfInBounds_toArray, List.set_cons_zero, List.set_cons_succ]
  refine Hd.take1 (v := ?v_5) (by kernel_rfl) (by kernel_rfl) (by kernel_rfl) (fun _ _ _ h => h) (Or.inl ⟨by rfl, ?hy_6⟩) (by assumption) ?rest_7
  case hy_6 => (intro w hSw; (try dsimp only at hSw); go_simp <;> with_reducible rfl)
  simp only [Act.put, List.setIfInBounds_toArray, List.set_cons_zero, List.set_cons_succ]
  refine Hd.take2 (v := ?v_8) (by kernel_rfl) (by kernel_rfl) (by kernel_rfl) (fun _ _ _ h => h) (Or.inl ⟨by rfl, ?hy_9⟩) (by assumption) ?rest_10
  case hy_9 => (intro w hSw; (try dsimp only at hSw); go_simp <;> with_reducible rfl)
  simp only [Act.put, List.setIfInBounds_toArray, List.set_cons_zero, List.set_cons_succ]
  refine Hd.take3 (v := ?v_11) (by kernel_rfl) (by kernel_rfl) (by kernel_rfl) (fun _ _ _ h => h) (Or.inl ⟨by rfl, ?hy_12⟩) (by assumption) ?rest_13
  case hy_12 => (intro w hSw; (try dsimp only at hSw); go_simp <;> with_reducible rfl)
  simp only [Act.put, List.setIfInBounds_toArray, List.set_cons_zero, List.set_cons_succ]
  refine Hd.take7 (v := ?v_14) (by kernel_rfl) (by kernel_rfl) (by kernel_rfl) (fun _ _ _ h => h) (Or.inl ⟨by rfl, ?hy_15⟩) (by assumption) ?rest_16
  case hy_15 => (intro w hSw; (try dsimp only at hSw); go_simp <;> with_reducible rfl)
  simp only [Act.put, List.setIfInBounds_toArray, List.set_cons_zero, List.set_cons_succ]
  refine Hd.take8 (v := ?v_17) (by kernel_rfl) (by kernel_rfl) (by kernel_rfl) (fun _ _ _ h => h) (Or.inl ⟨by rfl, ?hy_18⟩) (by assumption) ?rest_19
  case hy_18 => (intro w hSw; (try dsimp only at hSw); go_simp <;> with_reducible rfl)
  simp only [Act.put, List.setIfInBounds_toArray, List.set_cons_zero, List.set_cons_succ]
  refine Hd.take10 (v := ?v_20) (by kernel_rfl) (by kernel_rfl) (by kernel_rfl) (fun _ _ _ h => h) (Or.inl ⟨by rfl, ?hy_21⟩) (by assumption) ?rest_22
  case hy_21 => (intro w hSw; (try dsimp only at hSw); go_simp <;> with_reducible rfl)
  simp only [Act.put, List.setIfInBounds_toArray, List.set_cons_zero, List.set_cons_succ]
  refine Hd.take11 (v := ?v_23) (by kernel_rfl) (by kernel_rfl) (by kernel_rfl) (fun _ _ _ h => h) (Or.inl ⟨by rfl, ?hy_24⟩) (by assumption) ?rest_25
  case hy_24 => (intro w hSw; (try dsimp only at hSw); go_simp <;> with_reducible rfl)
  simp only [Act.put, List.setIfInBounds_toArray, List.set_cons_zero, List.set_cons_succ]
  refine Hd.take12 (v := ?v_26) (by kernel_rfl) (by kernel_rfl) (by kernel_rfl) (fun _ _ _ h => h) (Or.inl ⟨by rfl, ?hy_27⟩) (by assumption) ?rest_28
  case hy_27 => (intro w hSw; (try dsimp only at hSw); go_simp <;> with_reducible rfl)
  simp only [Act.put, List.setIfInBounds_toArray, List.set_cons_zero, List.set_cons_succ]
  refine Hd.take13 (v := ?v_29) (by kernel_rfl) (by kernel_rfl) (by kernel_rfl) (fun _ _ _ h => h) (Or.inl ⟨by rfl, ?hy_30⟩) (by assumption) ?rest_31
  case hy_30 => (intro w hSw; (try dsimp only at hSw); go_simp <;> with_reducible rfl)
  simp only [Act.put, List.setIfInBounds_toArray, List.set_cons_zero, List.set_cons_succ]
  refine Hd.take14 (v := ?v_32) (by kernel_rfl) (by kernel_rfl) (by kernel_rfl) (fun _ _ _ h => h) (Or.inl ⟨by rfl, ?hy_33⟩) (by assumption) ?rest_34
  case hy_33 => (intro w hSw; (try dsimp only at hSw); go_simp <;> with_reducible rfl)
  simp only [Act.put, List.setIfInBounds_toArray, List.set_cons_zero, List.set_cons_succ]
  refine wpAnyH_ready (rs := [4]) (by kernel_rfl) (by simp) ?_
  refine Hd.cons4 (fun K hK => ?_) ?_
  ·go_simp
   go_at_call 71
   (with_reducible refine Calls.mono (HPT.out _ ?hq_35 ?hm_36) ?_); (case hq_35 => (repeat with_reducible first | exact hlc | exact Later.refl hpb | refine jm hpb ?_ | refine jo hpb ?_)); (case hm_36 => (repeat with_reducible first | exact hmk | refine ja ?_ | refine jb ?_))
   rintro e wx ⟨gp, c3, n0, n0o, n0c, rfl, n0t, gtf, n00, n01, n02, hmk, hlx⟩
   (try (replace hs4 := slc_later hs4 hlx))
   (refine with_lt (pb := pb) (w0 := W2) ?hl2_37 hlx ?_); (case hl2_37 => (repeat with_reducible first | exact hlc | exact Later.refl hpb | refine jm hpb ?_ | refine jo hpb ?_))
   intro hlc
   refine hK.out _ _ ?hS_38 (fun hHeld => ?_)
   case hS_38 => exact HSS.out _ hlc
   clear hK K
   (try simp only [Act.put, List.setIfInBounds_toArray, List.set_cons_zero, List.set_cons_succ])
   refine Hd.more (S' := (fun (W : World) => ((W.cell? ⟨B, 0, none⟩ = some (.int .i64 h.k) /\ W.cell? ⟨B, 1, none⟩ = some (.string h.nm) /\ W.cell? ⟨B, 2, none⟩ = some (.int .i64 h.n) /\ W.cell? ⟨B, 3, none⟩ = some (.int .i64 h.tk) /\ W.cell? ⟨B, 4, none⟩ = some (.int .i64 h.tn) /\ W.cell? ⟨B, 5, none⟩ = some (.slice o1 l1 c1) /\ W.cell? ⟨B, 6, none⟩ = some (.slice (some ⟨b9, off9, none⟩) l2 c2) /\ W.cell? ⟨B, 7, none⟩ = some (.int .i64 h.fr) /\ W.cell? ⟨B, 8, none⟩ = some (.int .i64 h.en)) /\ (W.cell? ⟨C, 0, none⟩ = some (.int .i64 1) /\ W.cell? ⟨C, 1, none⟩ = some (.int .i64 mk.next) /\ W.cell? ⟨C, 2, none⟩ = some (.slice oo 0 cc)) /\ (W.cell? ⟨b9, off9 + 7, none⟩ = some (.int .i64 u.fr) /\ W.cell? ⟨b9, off9 + 8, none⟩ = some (.int .i64 u.en))) /\ (W.cell? ⟨gp, 0, none⟩ = some (.int .i64 1) /\ W.cell? ⟨gp, 1, none⟩ = some (.int .i64 n0) /\ W.cell? ⟨gp, 2, none⟩ = some (.slice n0o 0 n0c)))) (fun _ h => h.1) _ _ _ _ ?_
   replace hHeld : (fun (W : World) => ((W.cell? ⟨B, 0, none⟩ = some (.int .i64 h.k) /\ W.cell? ⟨B, 1, none⟩ = some (.string h.nm) /\ W.cell? ⟨B, 2, none⟩ = some (.int .i64 h.n) /\ W.cell? ⟨B, 3, none⟩ = some (.int .i64 h.tk) /\ W.cell? ⟨B, 4, none⟩ = some (.int .i64 h.tn) /\ W.cell? ⟨B, 5, none⟩ = some (.slice o1 l1 c1) /\ W.cell? ⟨B, 6, none⟩ = some (.slice (some ⟨b9, off9, none⟩) l2 c2) /\ W.cell? ⟨B, 7, none⟩ = some (.int .i64 h.fr) /\ W.cell? ⟨B, 8, none⟩ = some (.int .i64 h.en)) /\ (W.cell? ⟨C, 0, none⟩ = some (.int .i64 1) /\ W.cell? ⟨C, 1, none⟩ = some (.int .i64 mk.next) /\ W.cell? ⟨C, 2, none⟩ = some (.slice oo 0 cc)) /\ (W.cell? ⟨b9, off9 + 7, none⟩ = some (.int .i64 u.fr) /\ W.cell? ⟨b9, off9 + 8, none⟩ = some (.int .i64 u.en))) /\ (W.cell? ⟨gp, 0, none⟩ = some (.int .i64 1) /\ W.cell? ⟨gp, 1, none⟩ = some (.int .i64 n0) /\ W.cell? ⟨gp, 2, none⟩ = some (.slice n0o 0 n0c))) _ := ⟨HSS.out _ hlc, n00, n01, n02⟩
   (try dsimp only at hHeld)
   refine Hd.take5 (v := ?v_39) (by kernel_rfl) (by kernel_rfl) (by kernel_rfl) (fun _ _ _ h => h) (Or.inl ⟨by rfl, ?hy_40⟩) (by assumption) ?rest_41
   case hy_40 => (intro w hSw; (try dsimp only at hSw); go_simp <;> with_reducible rfl)
   simp only [Act.put, List.setIfInBounds_toArray, List.set_cons_zero, List.set_cons_succ]
   refine Hd.take6 (v := ?v_42) (by kernel_rfl) (by kernel_rfl) (by kernel_rfl) (fun _ _ _ h => h) (Or.inl ⟨by rfl, ?hy_43⟩) (by assumption) ?rest_44
   case hy_43 => (intro w hSw; (try dsimp only at hSw); go_simp <;> with_reducible rfl)
   simp only [Act.put, List.setIfInBounds_toArray, List.set_cons_zero, List.set_cons_succ]
   refine wpAnyH_ready (rs := [9]) (by kernel_rfl) (by simp) ?_
   refine Hd.cons9 (fun K hK => ?_) ?_
   ·go_simp
    go_at_call 62
    (with_reducible refine Calls.mono (HCP.out _ ?hq_45) ?_); (case hq_45 => (repeat with_reducible first | exact hlc | exact Later.refl hpb | refine jm hpb ?_ | refine jo hpb ?_))
    rintro e wx ⟨o4, c4, rfl, hs4, hqx⟩
    (refine with_new (pb := pb) (X := X1) (most := most) (k := res.2) ?hm5_46 hqx hs4 ?_); (case hm5_46 => (repeat with_reducible first | exact hmk | refine ja ?_ | refine jb ?_))
    intro hs4
    (refine with_tf (X := X1) (most := most) (pb := pb) (k := res.2) ?hmt_47 hqx n00 gtf ?_); (case hmt_47 => (repeat with_reducible first | exact hmk | refine ja ?_ | refine jb ?_))
    intro gtf
    replace n00 := hqx.at n00; replace n01 := hqx.at n01; replace n02 := hqx.at n02
    (refine with_ml (pb := pb) (X := X1) (most := most) (k := res.2) (w0 := W2) ?hl2_48 ?hm2_49 hqx ?_); (case hm2_49 => (repeat with_reducible first | exact hmk | refine ja ?_ | refine jb ?_)); (case hl2_48 => (repeat with_reducible first | exact hlc | exact Later.refl hpb | refine jm hpb ?_ | refine jo hpb ?_))
    intro hlc hmk
    refine hK.out _ _ ?hS_50 (fun hHeld => ?_)
    case hS_50 => exact ⟨HSS.out _ hlc, n00, n01, n02⟩
    clear hK K
    (try simp only [Act.put, List.setIfInBounds_toArray, List.set_cons_zero, List.set_cons_succ])
    refine wpAnyH_ready (rs := [15]) (by kernel_rfl) (by simp) ?_
    refine Hd.cons15 (fun K hK => ?_) ?_
    ·go_simp
     go_at_call 66
     (with_reducible refine Calls.mono (HEQ1.out _ _ _ _ _ _ n0t ?hm_51 ?hs1_52) ?_); (case hm_51 => (repeat with_reducible first | exact hmk | refine ja ?_ | refine jb ?_)); (case hs1_52 => (repeat (first | with_reducible exact hs4 | ((with_reducible refine slc_st (pb := pb) (X := X1) (most := most) (k := res.2) ?hmS (Quiet0.alloc _ _) ?_); (case hmS => (repeat with_reducible first | exact hmk | refine ja ?_ | refine jb ?_))) | ((with_reducible refine slc_st (pb := pb) (X := X1) (most := most) (k := res.2) ?hmS (Quiet0.drew _) ?_); (case hmS => (repeat with_reducible first | exact hmk | refine ja ?_ | refine jb ?_))) | fail)))
     rintro e wx ⟨rfl, hmk, hlx⟩
     (refine with_lt (pb := pb) (w0 := W2) ?hl2_53 hlx ?_); (case hl2_53 => (repeat with_reducible first | exact hlc | exact Later.refl hpb | refine jm hpb ?_ | refine jo hpb ?_))
     intro hlc
     refine hK.out _ _ ?hS_54 (fun hHeld => ?_)
     case hS_54 => exact ⟨HSS.out _ hlc, cell_later gtf hlx n00, cell_later gtf hlx n01, cell_later gtf hlx n02⟩
     clear hK K
     (try simp only [Act.put, List.setIfInBounds_toArray, List.set_cons_zero, List.set_cons_succ])
     refine wpAnyH_done (by kernel_rfl) ?_ _
     go_wp2_with fail
     go_meet
     exact ⟨hmk, hlc⟩
    ·exact AllReadyH.nil
   ·exact AllReadyH.nil
  exact AllReadyH.nil
 case rest =>
  rename World => w3
  obtain ⟨hm3, hl3⟩ := hcut
  have HM3 := hid hm3
  have HL3 := hid hl3
  have hpb := hm3.lt
  clear hm3 hl3 f7 f8 a0 a1 a2 a3 a4 a5 a6 a7 a8 b0 b1 b2 q3
  clear hmk hlc
  have HSS3 : Hid (∀ W, Later pb w3 W -> (W.cell? ⟨B, 0, none⟩ = some (.int .i64 h.k) /\ W.cell? ⟨B, 1, none⟩ = some (.string h.nm) /\ W.cell? ⟨B, 2, none⟩ = some (.int .i64 h.n) /\ W.cell? ⟨B, 3, none⟩ = some (.int .i64 h.tk) /\ W.cell? ⟨B, 4, none⟩ = some (.int .i64 h.tn) /\ W.cell? ⟨B, 5, none⟩ = some (.slice o1 l1 c1) /\ W.cell? ⟨B, 6, none⟩ = some (.slice (some ⟨b9, off9, none⟩) l2 c2) /\ W.cell? ⟨B, 7, none⟩ = some (.int .i64 h.fr) /\ W.cell? ⟨B, 8, none⟩ = some (.int .i64 h.en)) /\ (W.cell? ⟨C, 0, none⟩ = some (.int .i64 1) /\ W.cell? ⟨C, 1, none⟩ = some (.int .i64 mk.next) /\ W.cell? ⟨C, 2, none⟩ = some (.slice oo 0 cc))) := fun W' hl => by
   have k := HSS.out W' (HL3.out.trans hl)
   exact ⟨k.1, k.2.1⟩
  have HCP3 : Hid (∀ W, Later pb w3 W -> Calls Tryz.prog 62 #[.agg #[.int .i64 h.tk, .int .i64 h.tn, .slice o1 l1 c1]] W (CoQ W h.tk h.tn l1 h.tp)) := fun W' hl => HCP.out W' (HL3.out.trans hl)
  obtain ⟨⟨a0, a1, a2, a3, a4, a5, a6, a7, a8⟩, ⟨b0, b1, b2⟩⟩ := HSS3.out w3 (Later.refl hpb)
  have hmk := HM3.out
  have hlc := Later.refl hpb
  clear HSS HCP HPT HEQ1
  go_upto_region 30 with fail
  go_region_held3 (fun W => (W.cell? ⟨B, 0, none⟩ = some (.int .i64 h.k) /\ W.cell? ⟨B, 1, none⟩ = some (.string h.nm) /\ W.cell? ⟨B, 2, none⟩ = some (.int .i64 h.n) /\ W.cell? ⟨B, 3, none⟩ = some (.int .i64 h.tk) /\ W.cell? ⟨B, 4, none⟩ = some (.int .i64 h.tn) /\ W.cell? ⟨B, 5, none⟩ = some (.slice o1 l1 c1) /\ W.cell? ⟨B, 6, none⟩ = some (.slice (some ⟨b9, off9, none⟩) l2 c2) /\ W.cell? ⟨B, 7, none⟩ = some (.int .i64 h.fr) /\ W.cell? ⟨B, 8, none⟩ = some (.int .i64 h.en)) /\ (W.cell? ⟨C, 0, none⟩ = some (.int .i64 1) /\ W.cell? ⟨C, 1, none⟩ = some (.int .i64 mk.next) /\ W.cell? ⟨C, 2, none⟩ = some (.slice oo 0 cc)))
   (((refine HSS3.out _ ?_); (repeat with_reducible first | exact hlc | exact Later.refl hpb | refine jm hpb ?_ | refine jo hpb ?_)))
   (first
    | (go_at_call 62; (with_reducible refine Calls.mono (HCP3.out _ ?hq) ?_); (case hq => (repeat with_reducible first | exact hlc | exact Later.refl hpb | refine jm hpb ?_ | refine jo hpb ?_)); rintro e wx ⟨o4, c4, rfl, hs4, hqx⟩; (refine with_new (pb := pb) (X := X1) (most := most) (k := mka) ?hm5 hqx hs4 ?_; (case hm5 => (repeat with_reducible first | exact hmk | refine ja ?_ | refine jb ?_)); intro hs4); (refine with_ml (pb := pb) (X := X1) (most := most) (k := mka) (w0 := w3) ?hl2 ?hm2 hqx ?_); (case hl2 => (repeat with_reducible first | exact hlc | exact Later.refl hpb | refine jm hpb ?_ | refine jo hpb ?_)); (case hm2 => (repeat with_reducible first | exact hmk | refine ja ?_ | refine jb ?_)); intro hlc hmk)
    | ((go_at_call 66; (with_reducible refine Calls.mono (HEQ2.out _ _ _ ?hm ?hs1) ?_)); (case hm => (repeat with_reducible first | exact hmk | refine ja ?_ | refine jb ?_)); (case hs1 => (repeat (first | with_reducible exact hs4 | ((with_reducible refine slc_st (pb := pb) (X := X1) (most := most) (k := mka) ?hmS (Quiet0.alloc _ _) ?_); (case hmS => (repeat with_reducible first | exact hmk | refine ja ?_ | refine jb ?_))) | ((with_reducible refine slc_st (pb := pb) (X := X1) (most := most) (k := mka) ?hmS (Quiet0.drew _) ?_); (case hmS => (repeat with_reducible first | exact hmk | refine ja ?_ | refine jb ?_))) | fail))); rintro e wx ⟨rfl, hmk, hlx⟩; (refine with_lt (pb := pb) (w0 := w3) ?hl2 hlx ?_); (case hl2 => (repeat with_reducible first | exact hlc | exact Later.refl hpb | refine jm hpb ?_ | refine jo hpb ?_)); intro hlc)
    | fail)
  all_goals
   have HM4 := hid hmk
   have HL4 := hid (HL3.out.trans hlc)
   clear hmk hlc
   obtain ⟨g0, g1, g2, _, _, _⟩ := box_cells3 (H7.out.later HL4.out).1
   have hb6 := (H62.out.later HL4.out).1
   have HB6 := hid hb6
   obtain ⟨d0, d1, d2, y0, y1, y2⟩ := box_cells3 hb6
   clear hb6
   go_wp2_with fail
   clear d0 d1 d2 y0 y1 y2
   have hf := put3_fr wx (B + 1) (.int .i64 1) (.int .i64 mk.next) (.slice oo 0 cc)
   obtain ⟨f0, f1, f2⟩ := put3_cells (a := .int .i64 1) (b := .int .i64 mk.next) (c := .slice oo 0 cc) HB6.out
   change bodyPost _ _ _ _ _ (put3 wx (B + 1) (.int .i64 1) (.int .i64 mk.next) (.slice oo 0 cc))
   generalize put3 wx (B + 1) (.int .i64 1) (.int .i64 mk.next) (.slice oo 0 cc) = wf at *
   refine bodyPost_ret (by simp [results, Tryz.results42, go_sem, f0, f1, f2]; rfl) rfl ?_
   have hp : pb < W.heap.size := by rw [hBB]; exact HP.out
   refine ⟨mk.next, oo, cc, by rw [HRES.out], rfl, ?_, (HL2.out.trans HL4.out).put hf hp (fun i hi => by omega)⟩
   rw [HRES.out]
   exact (HM4.out.put (hf.mono (fun i _ e => by rw [HX1.out]; exact Or.inr (by omega)))).less (fun i hi => by rw [HX1.out]; exact Or.inl hi)
end Em
end
section
open Go.RowKit
namespace Em
def TmM (h : Nd) (ps : To) : Prop := ∀ (W : World) (R X : Nat -> Prop) (most : Int) (pb : Nat) (mk : Mk) (o1 : Option Addr) (l1 c1 : Nat) (o2 : Option Addr) (l2 c2 : Nat) (eo : Option Addr) (en ec : Nat) (e : FEnv) (E : Env),
 SlcIn R W o1 l1 h.tp -> TSlc R W o2 l2 ps -> (∀ i, R i -> i < pb) -> MkE X most pb W mk -> most <= 4096 -> BfE pb W eo en e -> en <= ec -> en + ps.size <= 100000 -> EnvM most pb mk.next W e E -> okT h ps.length -> okTL ps -> Sc.free1 (names e) h ps = [] -> (termM most h ps E mk).2.next <= NBd -> mk.many = true ->
 Calls Tryz.prog 42 #[.pointer (some ⟨pb, 0, none⟩), tmv h o1 l1 c1 o2 l2 c2, .slice eo en ec] W (MkQ X most pb W (termM most h ps E mk))
theorem term_manyW (h : Nd) (ps : To) : TmM h ps := by
 intro W R X most pb mk o1 l1 c1 o2 l2 c2 eo en ec e E hs1 hs2 hR hm hmost hb hec hz hE hok hokl hfr hN hmany
 obtain ⟨W0, hW0⟩ : ∃ W0, W0 = (W.alloc (.cells (cells9 h o1 l1 c1 o2 l2 c2) 29)).alloc (.cells #[.int .i64 0, .int .i64 0, .slice none 0 0] 24) := ⟨_, rfl⟩
 have hq0 : Quiet0 W W0 := by rw [hW0]; exact (Quiet0.alloc _ _).trans (Quiet0.alloc _ _)
 have hz0 : W0.heap.size = W.heap.size + 2 := by rw [hW0]; simp
 have h4 : Bx pb W0 W.heap.size (cells9 h o1 l1 c1 o2 l2 c2) 29 := Bx.new hm hq0 (Nat.le_refl _) (by rw [hW0]; exact blk_after (Quiet0.alloc _ _) (heap_alloc_new W _))
 have h6 : Bx pb W0 (W.heap.size + 1) #[.int .i64 0, .int .i64 0, .slice none 0 0] 24 := Bx.new hm hq0 (by omega) (by
  rw [hW0]
  have := heap_alloc_new (W.alloc (.cells (cells9 h o1 l1 c1 o2 l2 c2) 29)) (.cells #[.int .i64 0, .int .i64 0, .slice none 0 0] 24)
  simpa using this)
 have hm0 := hm.more hq0 (fun i => i = W.heap.size + 1) (fun i hi => by subst hi; omega)
 have hp := hm.lt
 have hl0 := Later.of_quiet hq0 hp
 have hnx := (termM_nm most h ps E hE.ne mk).1
 have hnb : mk.next <= 500000000 := Nat.le_trans hnx hN
 have HTK := hid (take_any hm0 (by omega))
 have HL0 := hid hl0
 have H4 := hid h4
 have H6 := hid h6
 have HP := hid hp
 have HNB : Hid ((termM most h ps E mk).2.next <= NBd) := hN
 have HGO := hid (term_many most h ps E mk hmany)
 have HM0P := hid hm0.lt
 obtain ⟨X1, hX1⟩ : ∃ X1, X1 = (fun i => X i ∨ i = W.heap.size + 1) := ⟨_, rfl⟩
 have HX1 : Hid (∀ i, X1 i = (X i ∨ i = W.heap.size + 1)) := fun i => by rw [hX1]
 rw [<- hX1] at HTK
 clear hs1 hs2 hR hm hb hE hok hokl hfr hN hm0 hl0 hq0 h4 h6 hX1 hnx hp hz0 hmost
 obtain ⟨fin, hfin⟩ : ∃ fin, ({ mk with next := mk.next + 1 } : Mk) = fin := ⟨_, rfl⟩
 have HRES : Hid (termM most h ps E mk = (tv mk.next, fin)) := by show _ = _; rw [HGO.out, hfin]
 have HFIN := hid hfin
 clear hfin
 unfold tmv
 go_enter Tryz.func42, Tryz.ntmps42
 generalize hBB : W.heap.size = B at *
 go_upto_region 1 with fail
 rw [<- hW0]
 clear hW0
 go_wp2_with fail
 refine HTK.out.mono ?_; rintro x w1 ⟨n0, oo, cc, hn0, rfl, hm1, hl1⟩
 obtain rfl : mk.next = n0 := tv_inj hn0
 obtain ⟨W2, hW2⟩ : ∃ W2, W2 = w1.alloc (.cells #[.int .i64 1, .int .i64 mk.next, .slice oo 0 cc] 24) := ⟨_, rfl⟩
 have hq2 : Quiet0 w1 W2 := by rw [hW2]; exact Quiet0.alloc _ _
 have h7 : Bx pb W2 w1.heap.size #[.int .i64 1, .int .i64 mk.next, .slice oo 0 cc] 24 := Bx.new hm1 hq2 (Nat.le_refl _) (by rw [hW2]; exact heap_alloc_new w1 _)
 have H7 := hid h7
 have hm2 := hm1.stay hq2
 replace hm2 : MkE X1 most pb W2 { mk with next := mk.next + 1 } := hm2
 have hl2 := hl1.quiet hq2 HM0P.out
 have HM2 := hid hm2
 have HL2 := hid (HL0.out.trans hl2)
 have H42 := hid (H4.out.later hl2)
 have H62 := hid (H6.out.later hl2)
 have HP2 := hid hm2.lt
 clear hm1 hl1 hq2 h7 hm2 hl2 hn0 H4 H6 HL0 HTK
 unfold tyv
 go_upto_region 2 with fail
 change Code.wp _ _ _ _ (w1.alloc (.cells #[.int .i64 1, .int .i64 mk.next, .slice oo 0 cc] 24))
 rw [<- hW2]
 clear hW2
 generalize hC : w1.heap.size = C at *
 obtain ⟨ko, kc, kxs, hmka⟩ := HM2.out
 obtain ⟨_, _, _, q3⟩ := mk_cells hmka.box
 replace q3 : W2.cell? ⟨pb, 3, none⟩ = some (.bool true) := by rw [<- hmany]; exact q3
 obtain ⟨a0, a1, a2, a3, a4, a5, a6, a7, a8⟩ := cells9_block H42.out.1
 obtain ⟨b0, b1, b2, _, _, _⟩ := box_cells3 H7.out.1
 clear hmka
 have HM9 : Hid (MkE X1 most pb W2 fin) := by show MkE _ _ _ _ _; rw [<- HFIN.out]; exact HM2.out
 have HL9 := hid (Later.refl HP2.out)
 have hb6 := (H62.out.later HL9.out).1
 have HB6 := hid hb6
 obtain ⟨d0, d1, d2, y0, y1, y2⟩ := box_cells3 hb6
 clear hb6
 go_wp2_with fail
 clear d0 d1 d2 y0 y1 y2
 have hf := put3_fr W2 (B + 1) (.int .i64 1) (.int .i64 mk.next) (.slice oo 0 cc)
 obtain ⟨f0, f1, f2⟩ := put3_cells (a := .int .i64 1) (b := .int .i64 mk.next) (c := .slice oo 0 cc) HB6.out
 change bodyPost _ _ _ _ _ (put3 W2 (B + 1) (.int .i64 1) (.int .i64 mk.next) (.slice oo 0 cc))
 generalize put3 W2 (B + 1) (.int .i64 1) (.int .i64 mk.next) (.slice oo 0 cc) = wf at *
 refine bodyPost_ret (by simp [results, Tryz.results42, go_sem, f0, f1, f2]; rfl) rfl ?_
 have hp : pb < W.heap.size := by rw [hBB]; exact HP.out
 unfold MkQ
 refine ⟨mk.next, oo, cc, by rw [HRES.out], rfl, ?_, (HL2.out.trans HL9.out).put hf hp (fun i hi => by omega)⟩
 rw [HRES.out]
 exact (HM9.out.put (hf.mono (fun i _ e => by rw [HX1.out]; exact Or.inr (by omega)))).less (fun i hi => by rw [HX1.out]; exact Or.inl hi)
theorem termMk_any : ∀ (h : Nd) (ps : To), TmT h ps := fun h ps => by
 refine To.ind' (T := TmT) (fun h ps ih => ?_) h ps
 intro W R X most pb mk o1 l1 c1 o2 l2 c2 eo en ec e E a1 a2 a3 a4 a5 a6 a7 a8 a9 a10 a11 a12 a13
 cases hm : mk.many
 ·have hk := a10.1
  have key : TmN h ps := by
   rcases (show h.k = 1 ∨ h.k = 2 ∨ h.k = 3 ∨ h.k = 4 ∨ h.k = 5 ∨ h.k = 6 ∨ h.k = 7 ∨ h.k = 8 ∨ h.k = 9 ∨ h.k = 10 by omega) with k | k | k | k | k | k | k | k | k | k
   ·exact term_var h ps k
   ·exact term_int h ps k
   ·exact term_bool h ps k
   ·exact term_lam h ps ih k
   ·exact term_app h ps ih k
   ·exact term_let h ps ih k
   ·exact term_rec h ps ih k
   ·exact term_if h ps ih k
   ·exact term_tuple h ps ih k
   ·exact term_ann h ps ih k
  exact key W R X most pb mk o1 l1 c1 o2 l2 c2 eo en ec e E a1 a2 a3 a4 a5 a6 a7 a8 a9 a10 a11 a12 a13 hm
 ·exact term_manyW h ps W R X most pb mk o1 l1 c1 o2 l2 c2 eo en ec e E a1 a2 a3 a4 a5 a6 a7 a8 a9 a10 a11 a12 a13 hm
end Em
end
section
open Go.RowKit
namespace Em
def EqsAt (w : World) (o : Option Addr) (l : List Eqn) : Prop := l.length <= 4096 /\ (∀ t ∈ l, t.1.2.2.size <= 100000 /\ t.2.1.2.2.size <= 100000) /\ (l = [] ∨ ∃ b off, o = some ⟨b, off, none⟩ /\ QAt (fun _ => True) w b off l)
theorem QAt.stay {w w' : World} {b off : Nat} {l : List Eqn} (h : QAt (fun _ => True) w b off l) (hq : Quiet0 w w') : QAt (fun _ => True) w' b off l := by
 intro i t hi
 obtain ⟨o1, l1, c1, o2, l2, c2, s1, s2, a0, a1, a2, a3, a4, a5, a6, a7⟩ := h i t hi
 exact ⟨o1, l1, c1, o2, l2, c2, s1.stay hq, s2.stay hq, hq.at a0, hq.at a1, hq.at a2, hq.at a3, hq.at a4, hq.at a5, hq.at a6, hq.at a7⟩
theorem EqsAt.stay {w w' : World} {o : Option Addr} {l : List Eqn} (h : EqsAt w o l) (hq : Quiet0 w w') : EqsAt w' o l := by
 refine ⟨h.1, h.2.1, h.2.2.imp id ?_⟩
 rintro ⟨b, off, h1, h2⟩
 exact ⟨b, off, h1, h2.stay hq⟩
theorem EqsAt.nil (w : World) (o : Option Addr) : EqsAt w o [] := ⟨Nat.zero_le _, fun t ht => (by cases ht), .inl rfl⟩
theorem MkE.eqs {X : Nat -> Prop} {most : Int} {pb : Nat} {W : World} {k : Mk} {o : Option Addr} {c : Nat} {xs : List Value} (h : MkAt X most pb W k o c xs) : EqsAt W o k.eqs /\ k.eqs.length <= c := by
 rcases h.form with ⟨h1, h2, h3⟩ | ⟨g, h1, _, _, h4⟩
 ·exact ⟨⟨h.few, h.small, .inl (List.eq_nil_of_length_eq_zero h2)⟩, by omega⟩
 ·subst h1
  refine ⟨⟨h.few, h.small, .inr ⟨g, 0, rfl, ?_⟩⟩, h4⟩
  have hq : QAt (TF X pb W) W g 0 k.eqs := QAt.of_row h.cells (fun j u hj => by
   have := h.own.cells (g := g) rfl j u hj
   simpa [Addr.add_lit] using this)
  intro i t hi
  obtain ⟨o1, l1, c1, o2, l2, c2, s1, s2, a⟩ := hq i t hi
  exact ⟨o1, l1, c1, o2, l2, c2, s1.mono (fun _ _ _ => trivial), s2.mono (fun _ _ _ => trivial), a⟩
def OfQ (w : World) (r : List Eqn × Int) (x : Ending) (w' : World) : Prop := ∃ o c, x = .returned (.tuple #[.slice o r.1.length c, .int .i64 r.2]) /\ r.1.length <= c /\ EqsAt w' o r.1 /\ Quiet0 w w'
theorem ofQ_nil (w w' : World) (er : Int) (hq : Quiet0 w w') : OfQ w ([], er) (.returned (.tuple #[.slice none 0 0, .int .i64 er])) w' := ⟨none, 0, rfl, Nat.le_refl _, EqsAt.nil _ _, hq⟩
theorem mk_new {W : World} {m : Int} : MkE (fun _ => False) m W.heap.size (W.alloc (.cells #[.slice none 0 0, .int .i64 0, .int .i64 m, .bool false] 81)) ⟨[], 0, false⟩ :=
 ⟨none, 0, [], heap_alloc_new W _, World.ownsRow_nil _ _ _ _, fun g hg => (by cases hg), rfl, Nat.zero_le _, fun t ht => (by cases ht), fun i hi => hi.elim, fun h => h⟩
theorem of_any (h : Nd) (ps : To) (most : Int) (w : World) (R : Nat -> Prop) (o1 : Option Addr) (l1 c1 : Nat) (o2 : Option Addr) (l2 c2 : Nat) (hs1 : SlcIn R w o1 l1 h.tp) (hs : TSlc R w o2 l2 ps) (hz : ps.size <= 50000) (hg : allT GoodH (.cons h ps .nil)) (ht : Lx.Spaces w) :
    Calls Tryz.prog 19 #[tmv h o1 l1 c1 o2 l2 c2, .int .i64 most] w (OfQ w (ofN h ps most)) := by
 obtain ⟨W0, hW0⟩ : ∃ W0, W0 = w.alloc (.cells (cells9 h o1 l1 c1 o2 l2 c2) 29) := ⟨_, rfl⟩
 have HQ0 : Hid (Quiet0 w W0) := by rw [hW0]; exact Quiet0.alloc _ _
 have HB0 : Hid (W0.heap[w.heap.size]? = some (.cells (cells9 h o1 l1 c1 o2 l2 c2) 29 (0, 0))) := by show _ = _; rw [hW0]; exact heap_alloc_new w _
 have HRS := hid (Sc.resolve_any h ps W0 R o1 l1 c1 o2 l2 c2 (hs1.stay HQ0.out) (hs.stay HQ0.out) (by omega) hg (ht.stay HQ0.out))
 obtain ⟨m, hm⟩ : ∃ m, min most 4096 = m := ⟨_, rfl⟩
 obtain ⟨fin, hfin⟩ : ∃ fin, (termM m h ps [] ⟨[], 0, false⟩).2 = fin := ⟨_, rfl⟩
 have HM : Hid (m <= 4096) := by show m <= 4096; omega
 have HOF : Hid (ofN h ps most = if (Sc.rsvP h ps).2.2 = 0 then (if fin.many then ([], 6) else (fin.eqs, 0)) else ([], (Sc.rsvP h ps).2.2)) := by
  show _ = _
  unfold ofN
  rw [hm, hfin]
 have HTM : Hid ((Sc.rsvP h ps).2.2 = 0 -> ∀ W pb, Quiet0 w W -> w.heap.size <= pb -> MkE (fun _ => False) m pb W ⟨[], 0, false⟩ -> Calls Tryz.prog 42 #[.pointer (some ⟨pb, 0, none⟩), tmv h o1 l1 c1 o2 l2 c2, .slice none 0 0] W fun x w' => (∃ v, x = .returned v) /\ MkE (fun _ => False) m pb w' fin /\ Later pb W w') := fun h0 W pb hq hpb hmk => by
  obtain ⟨hrt, hfr⟩ := rsv0 h0
  have hok := okT_of _ hrt hg
  have hkk := okK_of _ hrt
  have hnx := run_next (M := 4096) HM.out h ps hkk
  have hr : ∀ i, (R i /\ i < w.heap.size) -> i < pb := fun i hi => by omega
  refine (termMk_any h ps W (fun i => R i /\ i < w.heap.size) (fun _ => False) m pb ⟨[], 0, false⟩ o1 l1 c1 o2 l2 c2 none 0 0 [] [] ((hs1.mono (fun i hi hk => ⟨hk, hi⟩)).stay hq) ((hs.mono (fun i hi hk => ⟨hk, hi⟩)).stay hq) hr hmk HM.out (BfIn.nil _ _ _) (Nat.le_refl _) (by omega) .nil hok.1 hok.2.1 hfr (Nat.le_trans hnx (by unfold NBd; omega))).mono ?_
  rintro x w' ⟨n, o, c, _, rfl, h1, h2⟩
  rw [hfin] at h1
  exact ⟨⟨_, rfl⟩, h1, h2⟩
 obtain ⟨res, hres⟩ : ∃ res, ofN h ps most = res := ⟨_, rfl⟩
 have HRES := hid hres
 have hmn : most <= 4096 ∨ 4096 < most := by omega
 rw [hres]
 clear hs1 hs hg ht hres hz hfin
 unfold tmv at HTM ⊢
 unfold tmv at HRS
 go_enter Tryz.func19, Tryz.ntmps19
 go_upto_region 1 with fail
 rw [<- hW0]
 clear hW0
 generalize hBB : w.heap.size = B at *
 have HBE := hid hBB
 clear hBB
 obtain ⟨a0, a1, a2, a3, a4, a5, a6, a7, a8⟩ := cells9_block HB0.out
 go_wp2_with fail
 refine HRS.out.mono ?_; rintro x w1 ⟨g, gs, q1, m1, d1, q2, m2, d2, p, er, rfl, hrv, hg1, hg2, hq1⟩
 unfold tmv
 have HER : Hid ((Sc.rsvP h ps).2.2 = er) := by show _ = _; rw [hrv]
 have hq2 : Quiet0 W0 ((w1.alloc (.cells (cells9 g q1 m1 d1 q2 m2 d2) 29)).alloc (.cells #[.int .i64 p.1, .int .i64 p.2] 27)) := hq1.trans ((Quiet0.alloc _ _).trans (Quiet0.alloc _ _))
 have HQ2 := hid hq2
 clear hrv hg1 hg2 hq1 hq2 a0 a1 a2 a3 a4 a5 a6 a7 a8
 go_upto_region 2 with fail
 change Code.wp _ _ _ _ ((w1.alloc (.cells (cells9 g q1 m1 d1 q2 m2 d2) 29)).alloc (.cells #[.int .i64 p.1, .int .i64 p.2] 27))
 generalize (w1.alloc (.cells (cells9 g q1 m1 d1 q2 m2 d2) 29)).alloc (.cells #[.int .i64 p.1, .int .i64 p.2] 27) = W2 at *
 by_cases he : er = 0
 ·have he2 : (er != 0) = false := by simp [he]
  have HFE : Hid (res = if fin.many then ([], 6) else (fin.eqs, 0)) := by show _ = _; rw [<- HRES.out, HOF.out, if_pos (by rw [HER.out]; exact he)]
  have HT0 := hid (HTM.out (by rw [HER.out]; exact he))
  clear he HTM
  obtain ⟨W3, hW3⟩ : ∃ W3, W3 = W2.alloc (.cells #[.slice none 0 0, .int .i64 0, .int .i64 m, .bool false] 81) := ⟨_, rfl⟩
  have hq3 : Quiet0 W2 W3 := by rw [hW3]; exact Quiet0.alloc _ _
  have hm3 : MkE (fun _ => False) m W2.heap.size W3 ⟨[], 0, false⟩ := by rw [hW3]; exact mk_new
  have hqw := HQ0.out.trans (HQ2.out.trans hq3)
  have hBz : w.heap.size <= W2.heap.size := (HQ0.out.trans HQ2.out).size
  have HC := hid (HT0.out W3 W2.heap.size hqw (by rw [<- HBE.out]; exact hBz) hm3)
  have HQW := hid hqw
  have HBZ := hid hBz
  have HRW : Hid (∀ i, ¬ Rw W2.heap.size W3 i) := fun i hi => by
   obtain ⟨n, c, e⟩ := hi
   rw [hW3, cell_of_row _ _ _ _ _ (0, 0) (heap_alloc_new W2 _)] at e
   simp at e
  have hb3 := blk_after (HQ2.out.trans hq3) HB0.out
  obtain ⟨a0, a1, a2, a3, a4, a5, a6, a7, a8⟩ := cells9_block hb3
  clear hm3 hqw HT0 hb3 hq3 hBz
  have hmi : (if most <= 4096 then most else 4096) = m := by rw [<- hm]; by_cases hh : most <= 4096 <;> simp [hh] <;> omega
  rcases hmn with hle | hlt
  ·obtain rfl : most = m := by omega
   go_upto_region 5 with fail
   change Code.wp _ _ _ _ (W2.alloc (.cells #[.slice none 0 0, .int .i64 0, .int .i64 most, .bool false] 81))
   rw [<- hW3]
   clear hW3
   generalize W2.heap.size = pb at *
   go_wp2_with fail
   refine HC.out.mono ?_; rintro x w5 ⟨⟨v, rfl⟩, hm5, hl5⟩
   obtain ⟨o5, c5, xs5, hmk5⟩ := hm5
   obtain ⟨q0, q1, q2, q3⟩ := mk_cells hmk5.box
   have HEQ5 := hid (MkE.eqs hmk5)
   have HQ5 : Hid (Quiet0 w w5) := Fr.trans' HQW.out hl5.fr (fun i hi e => e.elim (fun e => by have := HBZ.out; omega) (fun e => HRW.out i e))
   clear hmk5 hl5 a0 a1 a2 a3 a4 a5 a6 a7 a8
   obtain ⟨many, hmany⟩ : ∃ many, fin.many = many := ⟨_, rfl⟩
   rw [hmany] at q3
   have HMY := hid hmany
   clear hmany
   cases many
   ·have HRS2 : Hid (res = (fin.eqs, 0)) := by show _ = _; rw [HFE.out, HMY.out]; rfl
    go_wp2_with fail
    refine bodyPost_ret (by first | (simp [results, Tryz.results19, go_sem]; done) | (simp [results, Tryz.results19, go_sem]; rfl)) rfl ?_
    rw [HRS2.out]
    exact ⟨o5, c5, rfl, HEQ5.out.2, HEQ5.out.1, HQ5.out⟩
   ·have HRS2 : Hid (res = ([], 6)) := by show _ = _; rw [HFE.out, HMY.out]; rfl
    go_wp2_with fail
    refine bodyPost_ret (by first | (simp [results, Tryz.results19, go_sem]; done) | (simp [results, Tryz.results19, go_sem]; rfl)) rfl ?_
    rw [HRS2.out]
    exact ofQ_nil _ _ _ HQ5.out
  ·obtain rfl : (4096 : Int) = m := by omega
   go_upto_region 5 with fail
   change Code.wp _ _ _ _ (W2.alloc (.cells #[.slice none 0 0, .int .i64 0, .int .i64 4096, .bool false] 81))
   rw [<- hW3]
   clear hW3
   generalize W2.heap.size = pb at *
   go_wp2_with fail
   refine HC.out.mono ?_; rintro x w5 ⟨⟨v, rfl⟩, hm5, hl5⟩
   obtain ⟨o5, c5, xs5, hmk5⟩ := hm5
   obtain ⟨q0, q1, q2, q3⟩ := mk_cells hmk5.box
   have HEQ5 := hid (MkE.eqs hmk5)
   have HQ5 : Hid (Quiet0 w w5) := Fr.trans' HQW.out hl5.fr (fun i hi e => e.elim (fun e => by have := HBZ.out; omega) (fun e => HRW.out i e))
   clear hmk5 hl5 a0 a1 a2 a3 a4 a5 a6 a7 a8
   obtain ⟨many, hmany⟩ : ∃ many, fin.many = many := ⟨_, rfl⟩
   rw [hmany] at q3
   have HMY := hid hmany
   clear hmany
   cases many
   ·have HRS2 : Hid (res = (fin.eqs, 0)) := by show _ = _; rw [HFE.out, HMY.out]; rfl
    go_wp2_with fail
    refine bodyPost_ret (by first | (simp [results, Tryz.results19, go_sem]; done) | (simp [results, Tryz.results19, go_sem]; rfl)) rfl ?_
    rw [HRS2.out]
    exact ⟨o5, c5, rfl, HEQ5.out.2, HEQ5.out.1, HQ5.out⟩
   ·have HRS2 : Hid (res = ([], 6)) := by show _ = _; rw [HFE.out, HMY.out]; rfl
    go_wp2_with fail
    refine bodyPost_ret (by first | (simp [results, Tryz.results19, go_sem]; done) | (simp [results, Tryz.results19, go_sem]; rfl)) rfl ?_
    rw [HRS2.out]
    exact ofQ_nil _ _ _ HQ5.out
 ·have he2 : (er != 0) = true := by simp [he]
  have HFE : Hid (res = ([], er)) := by show _ = _; rw [<- HRES.out, HOF.out, if_neg (by rw [HER.out]; exact he), HER.out]
  clear he
  go_wp2_with fail
  refine bodyPost_ret (by first | (simp [results, Tryz.results19, go_sem]; done) | (simp [results, Tryz.results19, go_sem]; rfl)) rfl ?_
  rw [HFE.out]
  exact ofQ_nil _ _ _ (HQ0.out.trans HQ2.out)
end Em
end
section
open Go.RowKit
namespace Em
theorem introw {B : Nat} {w : World} {vo : Value} {l : List Int} (h : IntRow B w vo l) : ∃ o c, vo = .slice o l.length c /\ ∀ j x, l[j]? = some x -> ∃ g, o = some ⟨g, 0, none⟩ /\ w.cell? ⟨g, j, none⟩ = some (.int .i64 x) := by
 rcases h.1.2 with ⟨h1, h2⟩ | ⟨g, cap, cur, he, _⟩
 ·refine ⟨none, 0, by rw [h1, h2], fun j x hj => ?_⟩
  have := (List.getElem?_eq_some_iff.1 hj).1
  omega
 ·refine ⟨some ⟨g, 0, none⟩, cap, he, fun j x hj => ⟨g, rfl, ?_⟩⟩
  have := h.1.cells (g := g) (by rw [he]; rfl) j (.int .i64 x) (by unfold ints; rw [List.getElem?_map, hj]; rfl)
  simpa [Addr.add_lit] using this
theorem vars_len : ∀ (f : Fo) (l : List Int), (Fo.vars l f).length <= l.length + f.size
 | .nil, l => Nat.le_refl _
 | .cons k v ps r, l => by
  unfold Fo.vars
  have h1 := vars_len r (Fo.vars (if k == 1 && !inB l v then l ++ [v] else l) ps)
  have h2 := vars_len ps (if k == 1 && !inB l v then l ++ [v] else l)
  have h3 : (if k == 1 && !inB l v then l ++ [v] else l).length <= l.length + 1 := by split <;> simp
  simp only [Fo.size]
  omega
def eqV (t : Eqn) : List Int := Fo.vars [] (.cons t.1.1 t.1.2.1 t.1.2.2 (.cons t.2.1.1 t.2.1.2.1 t.2.1.2.2 .nil))
theorem eqV_in {N : Nat} {t : Eqn} (h : tyW N t.1 /\ tyW N t.2.1) : ∀ v ∈ eqV t, 0 <= v /\ v < N := vars_in _ [] ⟨h.1.1, h.1.2, h.2.1, h.2.2, trivial⟩ (fun v hv => by cases hv)
theorem evars_any (l : List Eqn) (N : Nat) (hN : N <= 1000000000) (w : World) (o : Option Addr) (c : Nat) (hE : EqsAt w o l) (hw : ∀ t ∈ l, tyW N t.1 /\ tyW N t.2.1) :
    Calls Tryz.prog 23 #[.slice o l.length c] w fun x w' => ∃ r : Int, x = .returned (.int .i64 r) /\ 0 <= r /\ r <= N /\ Quiet0 w w' := by
 obtain ⟨ln, hln⟩ : ∃ ln, l.length = ln := ⟨_, rfl⟩
 have HL := hid hln
 have H1 := hid hE
 have HW := hid hw
 have hz : ln <= 4096 := by have := hE.1; omega
 rw [hln]
 clear hE hln hw
 go_enter Tryz.func23, Tryz.ntmps23
 go_wp2_with fail
 go_loopw [3, 10] (fun s t wr => ∃ (i : Nat) (r : Int), t = .int .i64 i /\ s = .int .i64 r /\ i <= ln /\ 0 <= r /\ r <= N /\ Quiet0 w wr) (fun _ t _ => ln - (intOf t).toNat)
 case atStart => exact ⟨0, 0, rfl, rfl, Nat.zero_le _, Int.le_refl _, by omega, Quiet0.refl _⟩
 case round =>
  obtain ⟨i, r, rfl, rfl, hi, hr0, hrN, hq⟩ := hrel
  have HQ := hid hq
  by_cases hlt : i < ln
  ·have hlt' : (i : Int) < ln := by omega
   obtain ⟨t, ht⟩ : ∃ t, l[i]? = some t := ⟨_, List.getElem?_eq_getElem (by have := HL.out; omega)⟩
   have hE' := H1.out.stay hq
   have htm := List.mem_of_getElem? ht
   have hsz := H1.out.2.1 t htm
   have HTW := hid (HW.out t htm)
   have hcell : ∃ b off o1 l1 c1 o2 l2 c2, o = some ⟨b, off, none⟩ /\ Slc wr o1 l1 t.1.2.2 /\ Slc wr o2 l2 t.2.1.2.2 /\
       wr.cell? ⟨b, off + i * 8, none⟩ = some (.int .i64 t.1.1) /\ wr.cell? ⟨b, off + i * 8 + 1, none⟩ = some (.int .i64 t.1.2.1) /\ wr.cell? ⟨b, off + i * 8 + 2, none⟩ = some (.slice o1 l1 c1) /\
       wr.cell? ⟨b, off + i * 8 + 3, none⟩ = some (.int .i64 t.2.1.1) /\ wr.cell? ⟨b, off + i * 8 + 4, none⟩ = some (.int .i64 t.2.1.2.1) /\ wr.cell? ⟨b, off + i * 8 + 5, none⟩ = some (.slice o2 l2 c2) /\
       wr.cell? ⟨b, off + i * 8 + 6, none⟩ = some (.int .i64 t.2.2.1) /\ wr.cell? ⟨b, off + i * 8 + 7, none⟩ = some (.int .i64 t.2.2.2) := by
    rcases hE'.2.2 with e | ⟨b, off, e, hqa⟩
    ·subst e; simp at ht
    ·obtain ⟨o1, l1, c1, o2, l2, c2, s1, s2, a⟩ := hqa i t ht
     exact ⟨b, off, o1, l1, c1, o2, l2, c2, e, s1.slc, s2.slc, a⟩
   obtain ⟨b, off, o1, l1, c1, o2, l2, c2, rfl, s1, s2, a0, a1, a2, a3, a4, a5, a6, a7⟩ := hcell
   obtain ⟨W1, hW1⟩ : ∃ W1, W1 = wr.alloc (.cells (ec t o1 l1 c1 o2 l2 c2) 74) := ⟨_, rfl⟩
   have hq1 : Quiet0 wr W1 := by rw [hW1]; exact Quiet0.alloc _ _
   have hb1 := heap_alloc_new wr (.cells (ec t o1 l1 c1 o2 l2 c2) 74)
   rw [<- hW1] at hb1
   obtain ⟨vl, hvl⟩ : ∃ vl, eqV t = vl := ⟨_, rfl⟩
   have HVI : Hid (∀ v ∈ vl, 0 <= v /\ v < N) := by rw [<- hvl]; exact eqV_in HTW.out
   have HVC : Hid (∀ W b2, Quiet0 W1 W -> W.heap[b2]? = some (.cells #[.int .i64 t.1.1, .int .i64 t.1.2.1, .slice o1 l1 c1, .int .i64 t.2.1.1, .int .i64 t.2.1.2.1, .slice o2 l2 c2] 24 (0, 0)) -> Calls Tryz.prog 45 #[.slice (some ⟨b2, 0, none⟩) 2 2] W fun e w' => ∃ oo cc, e = .returned (.slice oo vl.length cc) /\ (∀ j x, vl[j]? = some x -> ∃ g, oo = some ⟨g, 0, none⟩ /\ w'.cell? ⟨g, j, none⟩ = some (.int .i64 x)) /\ Quiet0 W w') := fun W b2 hqw hb2 => by
    have t1 := s1.stay (hq1.trans hqw)
    have t2 := s2.stay (hq1.trans hqw)
    have cc : ∀ j (hj : j < 6), W.cell? ⟨b2, j, none⟩ = (#[Value.int .i64 t.1.1, .int .i64 t.1.2.1, .slice o1 l1 c1, .int .i64 t.2.1.1, .int .i64 t.2.1.2.1, .slice o2 l2 c2] : Array Value)[j]? := fun j hj => by rw [cell_of_row _ _ _ _ _ (0, 0) hb2]
    have hs : Slc W (some ⟨b2, 0, none⟩) 2 (.cons t.1.1 t.1.2.1 t.1.2.2 (.cons t.2.1.1 t.2.1.2.1 t.2.1.2.2 .nil)) := by
     refine ⟨rfl, by unfold maxLen; omega, fun _ => ⟨b2, 0, rfl, ?_⟩⟩
     exact ⟨cc 0 (by omega), cc 1 (by omega), ⟨o1, l1, c1, cc 2 (by omega), t1.1, t1.2.1, t1.2.2⟩, cc 3 (by omega), cc 4 (by omega), ⟨o2, l2, c2, cc 5 (by omega), t2.1, t2.2.1, t2.2.2⟩, trivial⟩
    refine (vars_any _ W _ 2 2 hs (fW_wf hN _ ⟨HTW.out.1.1, HTW.out.1.2, HTW.out.2.1, HTW.out.2.2, trivial⟩) (by simp only [Fo.size]; omega)).mono ?_
    rintro e w' ⟨vo, rfl, hrow, hqv⟩
    obtain ⟨oo, cc, rfl, hc⟩ := introw hrow
    have hvl' : Fo.vars [] (.cons t.1.1 t.1.2.1 t.1.2.2 (.cons t.2.1.1 t.2.1.2.1 t.2.1.2.2 .nil)) = vl := hvl
    rw [hvl'] at hc ⊢
    exact ⟨oo, cc, rfl, hc, hqv⟩
   have HQ1 := hid (hq.trans hq1)
   obtain ⟨vn, hvn⟩ : ∃ vn, vl.length = vn := ⟨_, rfl⟩
   have HVN := hid hvn
   rw [hvn] at HVC
   have hvz : vn <= 200002 := by
    have k := vars_len (.cons t.1.1 t.1.2.1 t.1.2.2 (.cons t.2.1.1 t.2.1.2.1 t.2.1.2.2 .nil)) []
    have k2 : (eqV t).length = vn := by rw [hvl, hvn]
    unfold eqV at k2
    simp only [Fo.size, List.length_nil] at k
    omega
   have d : ∀ j (hj : j < 8), W1.cell? ⟨wr.heap.size, j, none⟩ = (ec t o1 l1 c1 o2 l2 c2)[j]? := fun j hj => by rw [cell_of_row _ _ _ _ _ (0, 0) hb1]
   have d0 := d 0 (by omega)
   have d1 := d 1 (by omega)
   have d2 := d 2 (by omega)
   have d3 := d 3 (by omega)
   have d4 := d 4 (by omega)
   have d5 := d 5 (by omega)
   replace d0 : W1.cell? ⟨wr.heap.size, 0, none⟩ = some (.int .i64 t.1.1) := d0
   replace d1 : W1.cell? ⟨wr.heap.size, 1, none⟩ = some (.int .i64 t.1.2.1) := d1
   replace d2 : W1.cell? ⟨wr.heap.size, 2, none⟩ = some (.slice o1 l1 c1) := d2
   replace d3 : W1.cell? ⟨wr.heap.size, 3, none⟩ = some (.int .i64 t.2.1.1) := d3
   replace d4 : W1.cell? ⟨wr.heap.size, 4, none⟩ = some (.int .i64 t.2.1.2.1) := d4
   replace d5 : W1.cell? ⟨wr.heap.size, 5, none⟩ = some (.slice o2 l2 c2) := d5
   clear d hb1 s1 s2 hE' hsz ht htm hvl hvn hq hq1
   go_upto_region 5 with fail
   change Code.wp _ _ _ _ (wr.alloc (.cells (ec t o1 l1 c1 o2 l2 c2) 74))
   rw [<- hW1]
   clear hW1 a0 a1 a2 a3 a4 a5 a6 a7
   generalize hB : wr.heap.size = B at *
   have HV2 := hid (HVC.out _ W1.heap.size (Quiet0.alloc W1 (.cells #[.int .i64 t.1.1, .int .i64 t.1.2.1, .slice o1 l1 c1, .int .i64 t.2.1.1, .int .i64 t.2.1.2.1, .slice o2 l2 c2] 24)) (heap_alloc_new W1 _))
   have HQ2 := hid (HQ1.out.trans (Quiet0.alloc W1 (.cells #[.int .i64 t.1.1, .int .i64 t.1.2.1, .slice o1 l1 c1, .int .i64 t.2.1.1, .int .i64 t.2.1.2.1, .slice o2 l2 c2] 24)))
   clear HVC HTW
   go_wp2_with fail
   refine HV2.out.mono ?_; rintro e w2 ⟨oo, cc, rfl, hc, hqv⟩
   have HC := hid hc
   have HQ3 := hid (HQ2.out.trans hqv)
   clear hc hqv d0 d1 d2 d3 d4 d5
   go_wp2_with fail
   go_loopw [3, 21] (fun s t wx => ∃ (j : Nat) (r2 : Int), t = .int .i64 j /\ s = .int .i64 r2 /\ j <= vn /\ 0 <= r2 /\ r2 <= N /\ wx = w2) (fun _ t _ => vn - (intOf t).toNat)
   case atStart => exact ⟨0, r, rfl, rfl, Nat.zero_le _, hr0, hrN, rfl⟩
   case round =>
    obtain ⟨j, r2, rfl, rfl, hj, hs0, hsN, rfl⟩ := hrel
    by_cases hjt : j < vn
    ·have hjt' : (j : Int) < vn := by omega
     obtain ⟨v, hv⟩ : ∃ v, vl[j]? = some v := ⟨_, List.getElem?_eq_getElem (by have := HVN.out; omega)⟩
     obtain ⟨g, rfl, hg⟩ := HC.out j v hv
     have hvb := HVI.out v (List.mem_of_getElem? hv)
     obtain ⟨hv0, hvN⟩ := hvb
     have hwr : IntKind.i64.wrap (v + 1) = v + 1 := IntWalk.i64_in _ (by omega)
     clear hv
     go_wp2_with fail
     go_roundw
     case rel => exact ⟨j + 1, _, by go_num, rfl, by omega, by first | omega | (split <;> omega), by first | omega | (split <;> omega), trivial⟩
     case measure => simp [intOf]; omega
    ·have hjt' : ¬ (j : Int) < vn := by omega
     go_wp2_with fail
     go_roundw
     case rel => exact ⟨i + 1, r2, by go_num, rfl, by omega, hs0, hsN, HQ3.out⟩
     case measure => simp [intOf]; omega
  ·have hlt' : ¬ (i : Int) < ln := by omega
   clear hq
   go_wp2_with fail
   go_ret
   exact ⟨r, rfl, hr0, hrN, HQ.out⟩
end Em
end
section
open Go.RowKit
def bigH (h : Nd) : Bool := decide (60 < h.nm.size) || greatF h.tp
namespace To
def room : Nat -> Int -> To -> Int
 | _, m, nil => m
 | d, m, cons h ps r => if m < 0 then m else
     match d with
     | 0 => room 0 (-1) r
     | d + 1 => room (d + 1) (if bigH h then -1 else room d (m - 1) ps) r
theorem room_neg : ∀ (f : To) (d : Nat) (m : Int), m < 0 -> room d m f = m
 | nil, _, _, _ => by unfold room; rfl
 | cons h ps r, d, m, e => by unfold room; rw [if_pos e]
theorem room_le : ∀ (f : To) (d : Nat) (m : Int), 0 <= m -> room d m f <= m /\ -1 <= room d m f
 | nil, _, _, _ => by unfold room; omega
 | cons h ps r, d, m, e => by
  unfold room
  rw [if_neg (by omega)]
  cases d with
  | zero => simp only; rw [room_neg r 0 (-1) (by omega)]; omega
  | succ d =>
   simp only
   cases hb : bigH h
   ·simp only [Bool.false_eq_true, if_false]
    by_cases hm : 0 <= m - 1
    ·have h1 := room_le ps d (m - 1) hm
     by_cases h0 : 0 <= room d (m - 1) ps
     ·have h2 := room_le r (d + 1) _ h0; omega
     ·rw [room_neg r _ _ (by omega)]; omega
    ·rw [room_neg ps _ _ (by omega), room_neg r _ _ (by omega)]; omega
   ·simp only [if_true]
    rw [room_neg r _ _ (by omega)]; omega
theorem room_all : ∀ (f : To) (d : Nat) (m : Int), 0 <= room d m f -> room d m f = m - f.size /\ 0 <= m /\ f.depth <= d /\ allT (fun h => bigH h = false) f
 | nil, _, m, h => by unfold room at h ⊢; simp [size, depth, allT]; exact h
 | cons h ps r, d, m, e => by
  unfold room at e ⊢
  by_cases hm : m < 0
  ·rw [if_pos hm] at e; omega
  ·rw [if_neg hm] at e ⊢
   cases d with
   | zero => simp only at e; rw [room_neg r 0 (-1) (by omega)] at e; omega
   | succ d =>
    simp only at e ⊢
    obtain ⟨h1, h2, h3, h4⟩ := room_all r (d + 1) _ e
    cases hb : bigH h
    ·rw [hb] at h1 h2 e
     simp only [Bool.false_eq_true, if_false] at h1 h2 e ⊢
     obtain ⟨g1, g2, g3, g4⟩ := room_all ps d (m - 1) h2
     rw [h1, g1]
     refine ⟨by simp only [size]; omega, by omega, by simp only [depth]; omega, hb, g4, h4⟩
    ·rw [hb] at h2; simp at h2
end To
def roomOne (d : Nat) (m : Int) (h : Nd) (ps : To) : Int := if d = 0 then -1 else if bigH h then -1 else To.room (d - 1) (m - 1) ps
theorem room_cons (d : Nat) (m : Int) (h : Nd) (ps r : To) (hm : 0 <= m) : To.room d m (.cons h ps r) = To.room d (roomOne d m h ps) r := by
 conv => lhs; unfold To.room
 rw [if_neg (by omega)]
 unfold roomOne
 cases d with
 | zero => rfl
 | succ d => rfl
theorem roomOne_le (d : Nat) (m : Int) (h : Nd) (ps : To) (hm : 0 <= m) : -1 <= roomOne d m h ps /\ roomOne d m h ps <= m := by
 unfold roomOne
 split
 ·omega
 ·split
  ·omega
  ·by_cases h1 : 0 <= m - 1
   ·have := To.room_le ps (d - 1) (m - 1) h1; omega
   ·rw [To.room_neg _ _ _ (by omega)]; omega
def LRoomT (h : Nd) (ps : To) : Prop := ∀ (w : World) (R : Nat -> Prop) (o1 : Option Addr) (l1 c1 : Nat) (o2 : Option Addr) (l2 c2 : Nat) (d : Nat) (m : Int) (di : Int), di = d -> SlcIn R w o1 l1 h.tp -> TSlc R w o2 l2 ps -> h.nm.size <= 9223372036854775807 -> allT (fun h => h.nm.size <= 9223372036854775807) ps -> 0 <= m -> m <= 100000 -> d <= 100000 ->
 Calls Tryz.prog 46 #[tmv h o1 l1 c1 o2 l2 c2, .int .i64 m, .int .i64 di] w fun e w' => e = .returned (.int .i64 (roomOne d m h ps)) /\ Quiet0 w w'
theorem roomT_any (h : Nd) (ps : To) : LRoomT h ps := by
 refine To.ind' (T := LRoomT) ?_ h ps
 intro h ps ih w R o1 l1 c1 o2 l2 c2 d m di ed hs1 hs hnm hnms hm0 hm1 hd1
 subst ed
 have HG := hid (fun (W : World) (hq : Quiet0 w W) => great_any h.tk h.tn h.tp W o1 l1 c1 (hs1.slc.stay hq))
 have HS := hid hs
 have IH := hid ih
 have HL := hid hs.1
 have HNM := hid hnms
 have hmx := hs.2.1
 unfold maxLen at hmx
 unfold tyv at HG
 clear hs ih hnms
 by_cases hd0 : d = 0
 ·subst hd0
  unfold tmv roomOne
  go_enter Tryz.func46, Tryz.ntmps46
  go_wp2_with fail
  go_ret
  exact ⟨rfl, Quiet0.alloc _ _⟩
 ·obtain ⟨D, hD⟩ : ∃ D, D = d - 1 := ⟨_, rfl⟩
  have hd0' : ((d : Int) == 0) = false := by simp; omega
  have hdD : d = D + 1 := by omega
  by_cases h60 : 60 < h.nm.size
  ·have h60' : (60 : Int) < (h.nm.size : Int) := by omega
   have HF : Hid (roomOne d m h ps = -1) := by show _ = _; unfold roomOne bigH; rw [if_neg hd0]; simp [h60]
   rw [HF.out]
   clear hd0 hD
   unfold tmv
   go_enter Tryz.func46, Tryz.ntmps46
   go_wp2_with fail
   go_ret
   exact ⟨rfl, Quiet0.alloc _ _⟩
  ·have h60' : ¬ (60 : Int) < (h.nm.size : Int) := by omega
   cases hg : greatF h.tp
   ·obtain ⟨res, hres⟩ : ∃ res, res = To.room D (m - 1) ps := ⟨_, rfl⟩
    have HRES := hid hres
    have HF : Hid (roomOne d m h ps = res) := by show _ = _; unfold roomOne bigH; rw [if_neg hd0, hres, hg, <- hD]; simp [h60]
    rw [HF.out]
    rw [hg] at HG
    have HDD := hid hdD
    have hD1 : D <= 100000 := by omega
    have hd1' : 1 <= d := by omega
    clear hres hd0 hD hdD hg h60
    obtain ⟨W0, hW0⟩ : ∃ W0, W0 = w.alloc (.cells (cells9 h o1 l1 c1 o2 l2 c2) 29) := ⟨_, rfl⟩
    have HB : Hid (∀ W, Quiet0 W0 W -> W.cell? ⟨w.heap.size, 6, none⟩ = some (.slice o2 l2 c2)) := by
     intro W hq; rw [hW0] at hq; exact (box9 w h o1 l1 c1 o2 l2 c2 _ W hq).2.2.2.2.2.2.1
    have HQ0 : Hid (Quiet0 w W0) := by rw [hW0]; exact Quiet0.alloc _ _
    unfold tmv
    go_enter Tryz.func46, Tryz.ntmps46
    go_wp2_with fail
    change Calls _ _ _ (w.alloc (.cells (cells9 h o1 l1 c1 o2 l2 c2) 29)) _
    rw [<- hW0]
    refine (HG.out _ HQ0.out).mono ?_; rintro e w1 ⟨rfl, hq1⟩
    have HQ1 := hid hq1
    clear hW0 hq1
    go_wp2_with fail
    generalize w.heap.size = nb at *
    go_loopw [1, 7] (fun s t wr => ∃ (i : Nat) (x : Int), t = .int .i64 i /\ s = .int .i64 x /\ i <= l2 /\ -1 <= x /\ x <= 100000 /\ res = To.room D x (ps.drop i) /\ Quiet0 W0 wr) (fun _ t _ => l2 - (intOf t).toNat)
    case atStart => exact ⟨0, m - 1, rfl, rfl, Nat.zero_le _, by omega, by omega, by rw [To.drop_zero]; exact HRES.out, HQ1.out⟩
    case round =>
     obtain ⟨i, x, rfl, rfl, hi, hx0, hx1, hr, hq⟩ := hrel
     have HR := hid hr
     have HQ := hid hq
     have g2 := HB.out wr hq
     clear hr hq
     by_cases hlt : i < l2
     ·have hlt' : (i : Int) < l2 := by omega
      by_cases hx : 0 <= x
      ·obtain ⟨b, off, hd, qs, p1, m1, d1, p2, m2, d2, rfl, hdr, hg, hRb, ⟨e0, e1, e2, e3, e4, e5, e6, e7, e8⟩, hsl, ht1⟩ := (HS.out.stay (HQ0.out.trans HQ.out)).nth hlt
       have hna := allT_get ps i hd qs HNM.out hg
       have HC := hid (IH.out i hd qs hg wr R p1 m1 d1 p2 m2 d2 D x ((d : Int) - 1) (by have := HDD.out; omega) hsl ht1 hna.1 hna.2 hx hx1 hD1)
       obtain ⟨y, hy⟩ : ∃ y, y = roomOne D x hd qs := ⟨_, rfl⟩
       have hyb : -1 <= y /\ y <= 100000 := by have := roomOne_le D x hd qs hx; omega
       have HY : Hid (res = To.room D y (ps.drop (i + 1))) := by
        show _ = _
        rw [HR.out, hdr, hy, room_cons _ _ _ _ _ hx]
       rw [<- hy] at HC
       unfold tmv at HC
       clear hdr hg hsl ht1 hy hRb hna
       go_wp2_with fail
       refine HC.out.mono ?_; rintro e w1 ⟨rfl, hq1⟩
       have HQ1 := hid (HQ.out.trans hq1)
       clear hq1
       go_wp2_with fail
       go_roundw
       case rel => exact ⟨i + 1, y, by go_num, rfl, by omega, hyb.1, hyb.2, HY.out, HQ1.out⟩
       case measure => simp [intOf]; omega
      ·have hx' : x < 0 := by omega
       have HY : Hid (res = x) := by show _ = _; rw [HR.out]; exact To.room_neg _ _ _ hx'
       go_wp2_with fail
       go_ret
       exact ⟨by rw [HY.out]; rfl, HQ0.out.trans HQ.out⟩
     ·have hlt' : ¬ (i : Int) < l2 := by omega
      have HY : Hid (res = x) := by
       show _ = _
       rw [HR.out, To.drop_end ps i (by have := HL.out; omega)]
       unfold To.room; rfl
      go_wp2_with fail
      go_ret
      exact ⟨by rw [HY.out]; rfl, HQ0.out.trans HQ.out⟩
   ·have HF : Hid (roomOne d m h ps = -1) := by show _ = _; unfold roomOne bigH; rw [if_neg hd0, hg]; simp
    rw [HF.out]
    rw [hg] at HG
    clear hd0 hD hg h60
    unfold tmv
    go_enter Tryz.func46, Tryz.ntmps46
    go_wp2_with fail
    refine (HG.out _ (Quiet0.alloc _ _)).mono ?_; rintro e w1 ⟨rfl, hq1⟩
    go_wp2_with fail
    go_ret
    exact ⟨rfl, (Quiet0.alloc _ _).trans hq1⟩
def greatTm (h : Nd) (ps : To) : Bool := decide (roomOne 60 200 h ps < 0)
theorem greatTm_no {h : Nd} {ps : To} (e : greatTm h ps = false) : bigH h = false /\ allT (fun h => bigH h = false) ps /\ ps.size + 1 <= 200 /\ ps.depth + 1 <= 60 := by
 unfold greatTm at e
 have h0 : 0 <= roomOne 60 200 h ps := by simpa using e
 unfold roomOne at h0
 rw [if_neg (by omega)] at h0
 cases hb : bigH h
 ·rw [hb] at h0
  simp only [Bool.false_eq_true, if_false] at h0
  obtain ⟨h1, h2, h3, h4⟩ := To.room_all ps _ _ h0
  exact ⟨rfl, h4, by omega, by omega⟩
 ·rw [hb] at h0; simp at h0
theorem bigH_no {h : Nd} (e : bigH h = false) : h.nm.size <= 60 /\ h.tp.size + 1 <= 300 := by
 unfold bigH at e
 rw [Bool.or_eq_false_iff] at e
 exact ⟨by simpa using e.1, great_size e.2⟩
theorem greatTm_any (h : Nd) (ps : To) (w : World) (R : Nat -> Prop) (o1 : Option Addr) (l1 c1 : Nat) (o2 : Option Addr) (l2 c2 : Nat) (hs1 : SlcIn R w o1 l1 h.tp) (hs : TSlc R w o2 l2 ps) (hnm : h.nm.size <= 9223372036854775807) (hnms : allT (fun h => h.nm.size <= 9223372036854775807) ps) :
    Calls Tryz.prog 24 #[tmv h o1 l1 c1 o2 l2 c2] w fun e w' => e = .returned (.bool (greatTm h ps)) /\ Quiet0 w w' := by
 have HC := hid (fun (W : World) (hq : Quiet0 w W) => roomT_any h ps W R o1 l1 c1 o2 l2 c2 60 200 60 rfl (hs1.stay hq) (hs.stay hq) hnm hnms (by omega) (by omega) (by omega))
 unfold greatTm
 generalize roomOne 60 200 h ps = r at *
 clear hs1 hs hnm hnms
 unfold tmv at *
 go_enter Tryz.func24, Tryz.ntmps24
 go_wp2_with fail
 refine (HC.out _ (Quiet0.alloc _ _)).mono ?_; rintro e w1 ⟨rfl, hq⟩
 go_wp2_with fail
 go_ret
 exact ⟨rfl, (Quiet0.alloc _ _).trans hq⟩
end
section
open Go.ChangeShapes Go.WideShapes Go.ChangeAt Go.RowKit
theorem own : ownKnob Tryz.prog.godebug = none := by kernel_rfl
def typesRead (P : Program) (ts : List TypeId) : Bool := ts.all fun t => P.readableRec t && decide (t < P.types.size)
theorem below_trodAll {H : Type} {enc : TypeId × Value -> H} {P : Program} (hl : laidOutB P = true) {W W' : World} (hb : Below W.heap.size W W') :
    ∀ (ts : List TypeId) (vs : List Value) (ds : List (DataW H)) (ps : List MemPlace), typesRead P ts = true -> DataW.TrodAll enc P W 0 (fun _ => true) true ts vs ds ps -> (∀ x ∈ ps, x.block < W.heap.size) ->
     DataW.TrodAll enc P W' 0 (fun b => decide (b < W.heap.size)) true ts vs ds ps
 | [], vs, ds, ps, _, h, _ => by
  obtain ⟨rfl, rfl, rfl⟩ := trodAll_nil h
  exact trodAll_mk0
 | t :: ts, vs, ds, ps, hr, h, hlt => by
  obtain ⟨v, vs', d, ds', p, q, rfl, rfl, rfl, h1, h2⟩ := trodAll_cons h
  simp only [typesRead, List.all_cons, Bool.and_eq_true, decide_eq_true_eq] at hr
  exact trodAll_cons_mk (Below.trod hl hr.1.1 hr.1.2 h1 hb (fun x hx => hlt x (List.mem_append_left _ hx)))
   (below_trodAll hl hb ts vs' ds' q hr.2 h2 (fun x hx => hlt x (List.mem_append_right _ hx)))
theorem law_post {H : Type} {enc : TypeId × Value -> H} {f : Func} {s : ChangeSpec} {W W' : World} {args : Array Value} {ds gs : List (DataW H)} {before : List MemPlace}
    (hW : DataW.Whole enc Tryz.prog f.params.toList s.vars false W args.toList ds gs before) (hv : s.vars = []) (hs : (s.fn H (ds ++ gs)).results = [.lit (.bool true)]) (hs2 : (s.fn H (ds ++ gs)).args = ds) (hs3 : (s.fn H (ds ++ gs)).vars = [])
    (hres : f.resultTypes = #[4]) (hread : typesRead Tryz.prog f.params.toList = true) (hb : Below W.heap.size W W') :
    s.post enc Tryz.prog f false true false false W args (.bool true) W' := by
 have hlt := hW.lt
 have hW' := hW
 obtain ⟨p, q, hA, hV, rfl, hfz, hnd⟩ := hW
 refine ⟨ds, gs, _, [], p, [], hW', ?_, ?_, ?_, hb.frame _, fun h => by cases h⟩
 ·rw [hs, hres]; exact trodAll_cons_mk (shut_bool Tryz.underlying4 _) trodAll_mk0
 ·rw [hs2]; exact below_trodAll (by kernel_rfl) hb _ _ _ _ hread hA (fun x hx => by have := hlt x (List.mem_append_left _ hx); simpa using this)
 ·rw [hs3, hv]; exact rfl
end
section
open Go.ChangeShapes Go.WideShapes Go.ChangeAt Go.RowKit
theorem spot_none {w : World} {a : Addr} {v : Value} (h : w.cell? (a.add 0) = some v) : ∃ b off, a = ⟨b, off, none⟩ := by
 obtain ⟨b, off, s⟩ := a
 cases s with
 | none => exact ⟨b, off, rfl⟩
 | some s =>
  unfold World.cell? Addr.add at h
  simp only [if_true] at h
  split at h <;> simp_all
section
variable {H : Type} {enc : TypeId × Value -> H} {P : Program} {w : World} {base : Nat} {spare : Nat -> Bool} {held : Bool}
theorem at_of_cells {b off len : Nat} (one : ∀ i, i < len -> ∃ k n o l c ps, w.cell? ⟨b, off + i * 3, none⟩ = some (.int .i64 k) /\ w.cell? ⟨b, off + i * 3 + 1, none⟩ = some (.int .i64 n) /\ w.cell? ⟨b, off + i * 3 + 2, none⟩ = some (.slice o l c) /\ Slc w o l ps /\ wfI n /\ wfF ps) :
    ∀ m s, s + m = len -> ∃ f : Fo, f.length = m /\ At w b (off + s * 3) f /\ wfF f
 | 0, s, _ => ⟨.nil, rfl, trivial, trivial⟩
 | m + 1, s, h => by
  obtain ⟨k, n, o, l, c, ps, h1, h2, h3, hs, hw, hwp⟩ := one s (by omega)
  obtain ⟨r, hr, ha, hwr⟩ := at_of_cells one m (s + 1) (by omega)
  refine ⟨.cons k n ps r, by simp [Fo.length, hr], ⟨h1, h2, ⟨o, l, c, h3, hs.1, hs.2.1, hs.2.2⟩, ?_⟩, hw, hwp, hwr⟩
  rw [show off + s * 3 + 3 = off + (s + 1) * 3 from by omega]
  exact ha
theorem open_parts {te : TypeId} {f0 f1 f2 : Field} (he : P.underlying te = some (.struct #[f0, f1, f2])) (ce : P.cellsOf te = 3)
    (o0 : f0.offset = 0) (o1 : f1.offset = 1) (o2 : f2.offset = 2) (c0 : P.cellsOf f0.type = 1) (c1 : P.cellsOf f1.type = 1) (c2 : P.cellsOf f2.type = 1) (k0 : P.underlying f0.type = some (.int .i64)) (k1 : P.underlying f1.type = some (.int .i64)) (k2 : P.underlying f2.type = some (.slice te)) :
    ∀ (fuel : Nat) (ts : TypeId) (cs : List Value) (x : DataW H × List MemPlace), P.underlying ts = some (.slice te) -> DataW.trod enc P w base spare held fuel ts cs = some x -> ∃ o len cap f, cs = [.slice o len cap] /\ Slc w o len f /\ wfF f := by
 intro fuel
 induction fuel using Nat.strongRecOn with
 | _ fuel ih =>
 intro ts cs x hts h
 rcases DataW.trod_slice hts h with ⟨rfl, _⟩ | ⟨a, len, cap, elems, rest, n, hfu, rfl, _, _, hl, hm, hlen, hel, _⟩
 ·exact ⟨_, _, _, .nil, rfl, Slc.nil _ _, trivial⟩
 ·have one : ∀ i, i < len -> ∃ k n o l c ps, w.cell? (a.add (i * 3)) = some (.int .i64 k) /\ w.cell? (a.add (i * 3 + 1)) = some (.int .i64 n) /\ w.cell? (a.add (i * 3 + 2)) = some (.slice o l c) /\ Slc w o l ps /\ wfI n /\ wfF ps := by
    intro i hi
    have h1 := hel i hi
    rw [List.getElem?_eq_getElem (by omega)] at h1
    obtain ⟨cs', h2, h3⟩ := Option.bind_eq_some_iff.1 h1
    rw [ce] at h2
    obtain ⟨_, hcl, hcell⟩ := World.cells?_some h2
    obtain ⟨xs, n', hn', _, _, hxl, hfx⟩ := DataW.trod_struct he h3
    match cs', hcl with
    | [u0, u1, u2], _ =>
     have hxl3 : xs.length = 3 := by simpa using hxl
     have s0 := hfx 0 f0 rfl
     have s1 := hfx 1 f1 rfl
     have s2 := hfx 2 f2 rfl
     rw [c0, o0, show xs[0]? = some (xs[0]'(by omega)) from by simp [hxl3]] at s0
     rw [c1, o1, show xs[1]? = some (xs[1]'(by omega)) from by simp [hxl3]] at s1
     rw [c2, o2, show xs[2]? = some (xs[2]'(by omega)) from by simp [hxl3]] at s2
     obtain ⟨z0, hz0, _, hw0⟩ := DataW.trod_int k0 s0
     obtain ⟨z1, hz1, _, hw1⟩ := DataW.trod_int k1 s1
     obtain ⟨o, l, c, ps, hz2, hps, hwp⟩ := ih n' (by omega) f2.type _ _ k2 s2
     simp at hz0 hz1 hz2
     have e1 := hcell 1 (by omega)
     have e2 := hcell 2 (by omega)
     simp [Deep.add_add] at e1 e2
     refine ⟨z0, z1, o, l, c, ps, ?_, ?_, ?_, hps, hw1, hwp⟩
     ·have : (a.add (i * 3)).add 0 = a.add (i * 3) := by rw [Deep.add_add]; rfl
      rw [<- this, hcell 0 (by omega)]; simp [hz0]
     ·rw [e1, hz1]
     ·rw [e2, hz2]
  by_cases h0 : len = 0
  ·subst h0
   exact ⟨_, _, _, .nil, rfl, Slc.nil _ _, trivial⟩
  ·obtain ⟨k, n, o, l, c, ps, h1, _⟩ := one 0 (by omega)
   rw [Nat.zero_mul] at h1
   obtain ⟨b, off, rfl⟩ := spot_none h1
   obtain ⟨f, hf, hA, hwf⟩ := at_of_cells (b := b) (off := off) (len := len) (w := w) (fun i hi => by
    obtain ⟨k, n, o, l, c, ps, h1, h2, h3, h4⟩ := one i hi
    exact ⟨k, n, o, l, c, ps, by simpa [Addr.add_lit] using h1, by simpa [Addr.add_lit, Nat.add_assoc] using h2, by simpa [Addr.add_lit, Nat.add_assoc] using h3, h4⟩) len 0 (by omega)
   rw [Nat.zero_mul, Nat.add_zero] at hA
   exact ⟨_, _, _, f, rfl, ⟨hf.symm, by omega, fun _ => ⟨b, off, rfl, hA⟩⟩, hwf⟩
theorem open_agg {te : TypeId} {f0 f1 f2 : Field} (he : P.underlying te = some (.struct #[f0, f1, f2])) (ce : P.cellsOf te = 3)
    (o0 : f0.offset = 0) (o1 : f1.offset = 1) (o2 : f2.offset = 2) (c0 : P.cellsOf f0.type = 1) (c1 : P.cellsOf f1.type = 1) (c2 : P.cellsOf f2.type = 1) (k0 : P.underlying f0.type = some (.int .i64)) (k1 : P.underlying f1.type = some (.int .i64)) (k2 : P.underlying f2.type = some (.slice te))
    {fuel : Nat} {cs : List Value} {x : DataW H × List MemPlace} (h : DataW.trod enc P w base spare held fuel te cs = some x) : ∃ k n o len cap f, cs = [.int .i64 k, .int .i64 n, .slice o len cap] /\ Slc w o len f /\ wfI n /\ wfF f := by
 obtain ⟨xs, n', hn', _, hcl, hxl, hfx⟩ := DataW.trod_struct he h
 rw [ce] at hcl
 match cs, hcl with
 | [u0, u1, u2], _ =>
  have hxl3 : xs.length = 3 := by simpa using hxl
  have s0 := hfx 0 f0 rfl
  have s1 := hfx 1 f1 rfl
  have s2 := hfx 2 f2 rfl
  rw [c0, o0, show xs[0]? = some (xs[0]'(by omega)) from by simp [hxl3]] at s0
  rw [c1, o1, show xs[1]? = some (xs[1]'(by omega)) from by simp [hxl3]] at s1
  rw [c2, o2, show xs[2]? = some (xs[2]'(by omega)) from by simp [hxl3]] at s2
  obtain ⟨z0, hz0, _, hw0⟩ := DataW.trod_int k0 s0
  obtain ⟨z1, hz1, _, hw1⟩ := DataW.trod_int k1 s1
  obtain ⟨o, l, c, ps, hz2, hps, hwp⟩ := open_parts he ce o0 o1 o2 c0 c1 c2 k0 k1 k2 n' f2.type _ _ k2 s2
  simp at hz0 hz1 hz2
  exact ⟨z0, z1, o, l, c, ps, by rw [hz0, hz1, hz2], hps, hw1, hwp⟩
end
section
variable {H : Type} {enc : TypeId × Value -> H} {w : World} {base : Nat} {spare : Nat -> Bool} {held : Bool}
end
end
end Go.Proofs.YtcninopmelmajaaGreatDoor
