/-
  Texts laid together (EqTLam, EqTApp, EqKept, EqBindL): laws and walks, with their conditions.
-/
import Derived.Test.YtcninopmelmajaaGreatDoorMN13
set_option maxHeartbeats 8000000
set_option maxRecDepth 1000000
namespace Go.Proofs.YtcninopmelmajaaGreatDoor
open Go.Lib (hid)
section
open Go.RowKit
namespace Em
theorem term_lam (h : Nd) (ps : To) (ih : ∀ i g qs, ps.get i = some (g, qs) -> TmT g qs) (hk : h.k = 4) : TmN h ps := by
 intro W R X most pb mk o1 l1 c1 o2 l2 c2 eo en ec e E hs1 hs2 hR hm hmost hb hec hz hE hok hokl hfr hN hmany
 obtain ⟨W0, hW0⟩ : ∃ W0, W0 = (W.alloc (.cells (cells9 h o1 l1 c1 o2 l2 c2) 29)).alloc (.cells #[.int .i64 0, .int .i64 0, .slice none 0 0] 24) := ⟨_, rfl⟩
 have hq0 : Quiet0 W W0 := by rw [hW0]; exact (Quiet0.alloc _ _).trans (Quiet0.alloc _ _)
 have hz0 : W0.heap.size = W.heap.size + 2 := by rw [hW0]; simp
 have h4 : Bx pb W0 W.heap.size (cells9 h o1 l1 c1 o2 l2 c2) 29 := Bx.new hm hq0 (Nat.le_refl _) (by rw [hW0]; exact blk_after (Quiet0.alloc _ _) (heap_alloc_new W _))
 have h6 : Bx pb W0 (W.heap.size + 1) #[.int .i64 0, .int .i64 0, .slice none 0 0] 24 := Bx.new hm hq0 (by omega) (by
  rw [hW0]
  have := heap_alloc_new (W.alloc (.cells (cells9 h o1 l1 c1 o2 l2 c2) 29)) (.cells #[.int .i64 0, .int .i64 0, .slice none 0 0] 24)
  simpa using this)
 have hm0 := hm.more hq0 (fun i => i = W.heap.size + 1) (fun i hi => by subst hi; omega)
 have hp := hm.lt
 have hl0 := Later.of_quiet hq0 hp
 have hnx := (termM_nm most h ps E hE.ne mk).1
 have hnb : mk.next <= 500000000 := Nat.le_trans hnx hN
 have HTK := hid (take_any hm0 (by omega))
 have HM := hid hm
 have HL0 := hid hl0
 have H4 := hid h4
 have H6 := hid h6
 have HP := hid hp
 have HS2 := hid hs2
 have HR := hid hR
 have HBF := hid hb
 have HE := hid hE
 have HOK := hid hok
 have HOKL := hid hokl
 have HFR := hid hfr
 have HNB : Hid ((termM most h ps E mk).2.next <= NBd) := hN
 have HMO := hid hmost
 have HK := hid hk
 have HGO := hid (term_go most h ps E mk hmany)
 have HM0P := hid hm0.lt
 have t2 : (h.k == 2) = false := by rw [hk]; rfl
 have t3 : (h.k == 3) = false := by rw [hk]; rfl
 have t1 : (h.k == 1) = false := by rw [hk]; rfl
 have t4 : (h.k == 4) = true := by rw [hk]; rfl
 obtain ⟨X1, hX1⟩ : ∃ X1, X1 = (fun i => X i ∨ i = W.heap.size + 1) := ⟨_, rfl⟩
 have HX1 : Hid (∀ i, X1 i = (X i ∨ i = W.heap.size + 1)) := fun i => by rw [hX1]
 rw [<- hX1] at HTK
 clear hs1 hs2 hR hm hb hE hok hokl hfr hN hm0 hl0 hq0 h4 h6 hX1 hnx hk hp hz0 hmost
 have IH := hid ih
 clear ih
 have hl1 : 1 <= l2 := by rw [HS2.out.1]; exact HOK.out.2.1 HK.out
 have hi0 : (0 : Int) < l2 := by omega
 have hj0 : 0 < l2 := by omega
 obtain ⟨b9, off9, u, qu, p1u, m1u, d1u, p2u, m2u, d2u, e9, _, gu, ru, cu, su, tu⟩ := HS2.out.nth (i := 0) (by omega)
 subst e9
 have hb9 := HR.out b9 ru
 have HGU := hid gu
 have HSU := hid su
 have HTU := hid tu
 have HZU := hid (To.size_get ps 0 u qu gu)
 have HOU := hid (okTL_get ps 0 u qu HOKL.out gu)
 have HFU : Hid (Sc.free1 (h.nm :: names e) u qu = []) := by
  show _ = _
  have k := free_of HFR.out (by rw [HK.out]; decide) gu
  rwa [envOf_more _ _ (by rw [HK.out]; rfl)] at k
 obtain ⟨res, hres⟩ : ∃ res, termM most u qu ((h.nm, pu (tv (mk.next + 1))) :: E) { mk with next := mk.next + 1 + 1 } = res := ⟨_, rfl⟩
 obtain ⟨fin, hfin⟩ : ∃ fin, (eqP most (tv mk.next) (arrT (tv (mk.next + 1)) res.1) h.fr h.en res.2).2 = fin := ⟨_, rfl⟩
 have HRES : Hid (termM most h ps E mk = (tv mk.next, fin)) := by show _ = _; rw [HGO.out, body_lam HK.out, vat_get HGU.out, <- hfin, <- hres]
 have HRN : Hid (res.2.next <= NBd) := by
  show _ <= _
  have k := HNB.out
  rw [HRES.out, <- hfin] at k
  simpa only [eqP_nx] using k
 have HNX : Hid (mk.next + 1 + 1 <= NBd) := by
  show _ <= _
  have k := (termM_nm most u qu ((h.nm, pu (tv (mk.next + 1))) :: E) (HE.out.ne.cons (NM.pure _)) { mk with next := mk.next + 1 + 1 }).1
  rw [hres] at k
  exact Nat.le_trans k HRN.out
 have HEQR := hid hres
 have HFIN := hid hfin
 clear hres hfin gu su tu
 unfold MkQ
 unfold tmv
 go_enter Tryz.func42, Tryz.ntmps42
 generalize hBB : W.heap.size = B at *
 go_upto_region 1 with fail
 rw [<- hW0]
 clear hW0
 go_wp2_with fail
 refine HTK.out.mono ?_; rintro x w1 ⟨n0, oo, cc, hn0, rfl, hm1, hl1⟩
 obtain rfl : mk.next = n0 := tv_inj hn0
 obtain ⟨W2, hW2⟩ : ∃ W2, W2 = w1.alloc (.cells #[.int .i64 1, .int .i64 mk.next, .slice oo 0 cc] 24) := ⟨_, rfl⟩
 have hq2 : Quiet0 w1 W2 := by rw [hW2]; exact Quiet0.alloc _ _
 have h7 : Bx pb W2 w1.heap.size #[.int .i64 1, .int .i64 mk.next, .slice oo 0 cc] 24 := Bx.new hm1 hq2 (Nat.le_refl _) (by rw [hW2]; exact heap_alloc_new w1 _)
 have H7 := hid h7
 have hm2 := hm1.stay hq2
 replace hm2 : MkE X1 most pb W2 { mk with next := mk.next + 1 } := hm2
 have hl2 := hl1.quiet hq2 HM0P.out
 have HM2 := hid hm2
 have HL2 := hid (HL0.out.trans hl2)
 have H42 := hid (H4.out.later hl2)
 have H62 := hid (H6.out.later hl2)
 have HP2 := hid hm2.lt
 clear hm1 hl1 hq2 h7 hm2 hl2 hn0 H4 H6 HL0 HTK
 unfold tyv
 go_upto_region 2 with fail
 change Code.wp _ _ _ _ (w1.alloc (.cells #[.int .i64 1, .int .i64 mk.next, .slice oo 0 cc] 24))
 rw [<- hW2]
 clear hW2
 generalize hC : w1.heap.size = C at *
 obtain ⟨ko, kc, kxs, hmka⟩ := HM2.out
 obtain ⟨_, _, _, q3⟩ := mk_cells hmka.box
 replace q3 : W2.cell? ⟨pb, 3, none⟩ = some (.bool false) := by rw [<- hmany]; exact q3
 obtain ⟨a0, a1, a2, a3, a4, a5, a6, a7, a8⟩ := cells9_block H42.out.1
 obtain ⟨b0, b1, b2, _, _, _⟩ := box_cells3 H7.out.1
 clear hmka
 generalize hnb1 : mk.next + 1 = nb at *
 have HTK2 := hid (take_any HM2.out (by show nb <= 1000000000; have : nb + 1 <= 500000000 := HNX.out; omega))
 go_wp2_with fail
 refine HTK2.out.mono ?_; rintro x w3 ⟨n1, o3, c3, hn1, rfl, hm3, hl3⟩
 obtain rfl : nb = n1 := tv_inj hn1
 replace hm3 : MkE X1 most pb w3 { mk with next := nb + 1 } := hm3
 obtain ⟨W4, hW4⟩ : ∃ W4, W4 = w3.alloc (.cells #[.int .i64 1, .int .i64 nb, .slice o3 0 c3] 24) := ⟨_, rfl⟩
 have hq4 : Quiet0 w3 W4 := by rw [hW4]; exact Quiet0.alloc _ _
 have h8 : Bx pb W4 w3.heap.size #[.int .i64 1, .int .i64 nb, .slice o3 0 c3] 24 := Bx.new hm3 hq4 (Nat.le_refl _) (by rw [hW4]; exact heap_alloc_new w3 _)
 have H8 := hid h8
 have HM4 := hid (hm3.stay hq4)
 have HL4 := hid (hl3.quiet hq4 HP2.out)
 have hpb := HM4.out.lt
 clear hm3 hl3 h8 hq4 HTK2 hn1 a0 a1 a2 a3 a4 a5 a6 a7 a8 b0 b1 b2 q3
 unfold tyv
 go_upto_region 13 with fail
 change Code.wp _ _ _ _ (w3.alloc (.cells #[.int .i64 1, .int .i64 nb, .slice o3 0 c3] 24))
 rw [<- hW4]
 clear hW4
 generalize hD : w3.heap.size = D at *
 have HSS : Hid (∀ W, Later pb W4 W -> (W.cell? ⟨B, 0, none⟩ = some (.int .i64 h.k) /\ W.cell? ⟨B, 1, none⟩ = some (.string h.nm) /\ W.cell? ⟨B, 2, none⟩ = some (.int .i64 h.n) /\ W.cell? ⟨B, 3, none⟩ = some (.int .i64 h.tk) /\ W.cell? ⟨B, 4, none⟩ = some (.int .i64 h.tn) /\ W.cell? ⟨B, 5, none⟩ = some (.slice o1 l1 c1) /\ W.cell? ⟨B, 6, none⟩ = some (.slice (some ⟨b9, off9, none⟩) l2 c2) /\ W.cell? ⟨B, 7, none⟩ = some (.int .i64 h.fr) /\ W.cell? ⟨B, 8, none⟩ = some (.int .i64 h.en)) /\ (W.cell? ⟨C, 0, none⟩ = some (.int .i64 1) /\ W.cell? ⟨C, 1, none⟩ = some (.int .i64 mk.next) /\ W.cell? ⟨C, 2, none⟩ = some (.slice oo 0 cc)) /\ (W.cell? ⟨D, 0, none⟩ = some (.int .i64 1) /\ W.cell? ⟨D, 1, none⟩ = some (.int .i64 nb) /\ W.cell? ⟨D, 2, none⟩ = some (.slice o3 0 c3)) /\ (W.cell? ⟨b9, off9, none⟩ = some (.int .i64 u.k) /\ W.cell? ⟨b9, off9 + 1, none⟩ = some (.string u.nm) /\ W.cell? ⟨b9, off9 + 2, none⟩ = some (.int .i64 u.n) /\ W.cell? ⟨b9, off9 + 3, none⟩ = some (.int .i64 u.tk) /\ W.cell? ⟨b9, off9 + 4, none⟩ = some (.int .i64 u.tn) /\ W.cell? ⟨b9, off9 + 5, none⟩ = some (.slice p1u m1u d1u) /\ W.cell? ⟨b9, off9 + 6, none⟩ = some (.slice p2u m2u d2u) /\ W.cell? ⟨b9, off9 + 7, none⟩ = some (.int .i64 u.fr) /\ W.cell? ⟨b9, off9 + 8, none⟩ = some (.int .i64 u.en))) := fun W' hl => by
  have hl' := HL4.out.trans hl
  obtain ⟨k0, k1, k2, _⟩ := box_cells3 (H7.out.later hl').1
  obtain ⟨k3, k4, k5, _⟩ := box_cells3 (H8.out.later hl).1
  exact ⟨cells9_block (H42.out.later hl').1, ⟨k0, k1, k2⟩, ⟨k3, k4, k5⟩, cells_later cu hb9 HM.out (HL2.out.trans hl')⟩
 have HSG : Hid (∀ W, Later pb W4 W -> MkE X1 most pb W { mk with next := nb + 1 } -> Calls Tryz.prog 69 #[.agg #[.int .i64 1, .int .i64 nb, .slice o3 0 c3]] W (SgQ most pb (nb + 1) W (pu (tv nb)))) := fun W hl hm => single_any hm
 have HWT : Hid (∀ W bs ls, Later pb W4 W -> MkE X1 most pb W { mk with next := nb + 1 } -> MeanT most pb (nb + 1) W (.func bs #[] ls) (pu (tv nb)) -> Calls Tryz.prog 68 #[.slice eo en ec, .string h.nm, .func bs #[] ls] W (WtQ most pb (nb + 1) W (en + 1) ((h.nm, .func bs #[] ls) :: e) ((h.nm, pu (tv nb)) :: E))) := fun W bs ls hl hm hf => by
  have hl' := HL2.out.trans (HL4.out.trans hl)
  exact with2_any h.nm hm (HBF.out.later hl') (HE.out.later hl' (by omega)) hec (by omega) hf (NM.pure _)
 have HTM : Hid (∀ W o c bs ls, Later pb W4 W -> MkE X1 most pb W { mk with next := nb + 1 } -> en + 1 <= c -> PkE most pb (nb + 1) W o (en + 1) ((h.nm, .func bs #[] ls) :: e) ((h.nm, pu (tv nb)) :: E) -> Calls Tryz.prog 42 #[.pointer (some ⟨pb, 0, none⟩), tmv u p1u m1u d1u p2u m2u d2u, .slice o (en + 1) c] W (MkQ X1 most pb W res)) := fun W o c bs ls hl hm hc hpk => by
  have hl' := HL2.out.trans (HL4.out.trans hl)
  have k := IH.out 0 u qu HGU.out W R X1 most pb { mk with next := nb + 1 } p1u m1u d1u p2u m2u d2u o (en + 1) c _ _ (slcin_later HSU.out HR.out HM.out hl') (tslc_later HTU.out HR.out HM.out hl') HR.out hm HMO.out hpk.1 hc (by have := HZU.out; omega) hpk.2 HOU.out.1 HOU.out.2 HFU.out (by rw [HEQR.out]; exact HRN.out)
  rw [HEQR.out] at k
  exact k
 have HAR : Hid (∀ (W : World) (g n9 : Nat) (o9 : Option Addr) (c9 : Nat), W.heap[g]? = some (.cells #[.int .i64 1, .int .i64 nb, .slice o3 0 c3, .int .i64 1, .int .i64 n9, .slice o9 0 c9] 24 (0, 0)) -> Calls Tryz.prog 40 #[.slice (some ⟨g, 0, none⟩) 2 2] W (ArQ W nb n9)) := fun W g n9 o9 c9 hg => arr2_any hg
 have HEQ : Hid (∀ (W : World) (n9 : Nat) (o4 : Option Addr) (c4 : Nat), res.1 = tv n9 -> MkE X1 most pb W res.2 -> SlcIn (TF X1 pb W) W o4 2 (arrT (tv nb) (tv n9)).2.2 -> Calls Tryz.prog 66 #[.pointer (some ⟨pb, 0, none⟩), .agg #[.int .i64 1, .int .i64 mk.next, .slice oo 0 cc], .agg #[.int .i64 4, .int .i64 0, .slice o4 2 c4], .agg #[.int .i64 h.fr, .int .i64 h.en]] W (MkU X1 most pb W fin)) := fun W n9 o4 c4 hr hmw hs => by
  have k := equate_any (o1 := oo) (l1 := 0) (c1 := cc) (c2 := c4) hmw HMO.out (tv mk.next) (arrT (tv nb) (tv n9)) h.fr h.en (SlcIn.nil _ _ _) hs (Nat.le_of_ble_eq_true rfl) (Nat.le_of_ble_eq_true rfl)
  rw [<- hr, HFIN.out] at k
  exact k
 have hmk := HM4.out
 have hlc := Later.refl hpb
 obtain ⟨⟨a0, a1, a2, a3, a4, a5, a6, a7, a8⟩, ⟨b0, b1, b2⟩, ⟨f0, f1, f2⟩, ⟨v0, v1, v2, v3, v4, v5, v6, v7, v8⟩⟩ := HSS.out W4 (Later.refl hpb)
 unfold tmv at HTM
 clear cu hb9 ru
 go_region_held3 (fun W => (W.cell? ⟨B, 0, none⟩ = some (.int .i64 h.k) /\ W.cell? ⟨B, 1, none⟩ = some (.string h.nm) /\ W.cell? ⟨B, 2, none⟩ = some (.int .i64 h.n) /\ W.cell? ⟨B, 3, none⟩ = some (.int .i64 h.tk) /\ W.cell? ⟨B, 4, none⟩ = some (.int .i64 h.tn) /\ W.cell? ⟨B, 5, none⟩ = some (.slice o1 l1 c1) /\ W.cell? ⟨B, 6, none⟩ = some (.slice (some ⟨b9, off9, none⟩) l2 c2) /\ W.cell? ⟨B, 7, none⟩ = some (.int .i64 h.fr) /\ W.cell? ⟨B, 8, none⟩ = some (.int .i64 h.en)) /\ (W.cell? ⟨C, 0, none⟩ = some (.int .i64 1) /\ W.cell? ⟨C, 1, none⟩ = some (.int .i64 mk.next) /\ W.cell? ⟨C, 2, none⟩ = some (.slice oo 0 cc)) /\ (W.cell? ⟨D, 0, none⟩ = some (.int .i64 1) /\ W.cell? ⟨D, 1, none⟩ = some (.int .i64 nb) /\ W.cell? ⟨D, 2, none⟩ = some (.slice o3 0 c3)) /\ (W.cell? ⟨b9, off9, none⟩ = some (.int .i64 u.k) /\ W.cell? ⟨b9, off9 + 1, none⟩ = some (.string u.nm) /\ W.cell? ⟨b9, off9 + 2, none⟩ = some (.int .i64 u.n) /\ W.cell? ⟨b9, off9 + 3, none⟩ = some (.int .i64 u.tk) /\ W.cell? ⟨b9, off9 + 4, none⟩ = some (.int .i64 u.tn) /\ W.cell? ⟨b9, off9 + 5, none⟩ = some (.slice p1u m1u d1u) /\ W.cell? ⟨b9, off9 + 6, none⟩ = some (.slice p2u m2u d2u) /\ W.cell? ⟨b9, off9 + 7, none⟩ = some (.int .i64 u.fr) /\ W.cell? ⟨b9, off9 + 8, none⟩ = some (.int .i64 u.en)))
  (((refine HSS.out _ ?_); (repeat with_reducible first | exact hlc | exact Later.refl hpb | refine jm hpb ?_ | refine jo hpb ?_)))
  (first
   | (go_at_call 69; (with_reducible refine Calls.mono (HSG.out _ ?hq ?hm) ?_); (case hq => (repeat with_reducible first | exact hlc | exact Later.refl hpb | refine jm hpb ?_ | refine jo hpb ?_)); (case hm => (repeat with_reducible first | exact hmk | refine ja ?_ | refine jb ?_)); rintro e wx ⟨bs, ls, rfl, hme, hqx⟩; (refine with_ml (pb := pb) (X := X1) (most := most) (k := { mk with next := nb + 1 }) (w0 := W4) ?hl2 ?hm2 hqx ?_); (case hl2 => (repeat with_reducible first | exact hlc | exact Later.refl hpb | refine jm hpb ?_ | refine jo hpb ?_)); (case hm2 => (repeat with_reducible first | exact hmk | refine ja ?_ | refine jb ?_)); intro hlc hmk)
   | (go_at_call 68; (with_reducible refine Calls.mono (HWT.out _ bs ls ?hq ?hm ?hmz) ?_); (case hq => (repeat with_reducible first | exact hlc | exact Later.refl hpb | refine jm hpb ?_ | refine jo hpb ?_)); (case hm => (repeat with_reducible first | exact hmk | refine ja ?_ | refine jb ?_)); (case hmz => (repeat (first | with_reducible exact hme | ((with_reducible refine MeanT.st (X := X1) (k := { mk with next := nb + 1 }) ?hmT (Quiet0.alloc _ _) ?_); (case hmT => (repeat with_reducible first | exact hmk | refine ja ?_ | refine jb ?_))) | ((with_reducible refine MeanT.st (X := X1) (k := { mk with next := nb + 1 }) ?hmT (Quiet0.drew _) ?_); (case hmT => (repeat with_reducible first | exact hmk | refine ja ?_ | refine jb ?_))) | fail))); rintro e wx ⟨wo, wc, rfl, hwc, hpk, hqx⟩; (refine with_ml (pb := pb) (X := X1) (most := most) (k := { mk with next := nb + 1 }) (w0 := W4) ?hl2 ?hm2 hqx ?_); (case hl2 => (repeat with_reducible first | exact hlc | exact Later.refl hpb | refine jm hpb ?_ | refine jo hpb ?_)); (case hm2 => (repeat with_reducible first | exact hmk | refine ja ?_ | refine jb ?_)); intro hlc hmk)
   | ((go_at_call 42; (with_reducible refine Calls.mono (HTM.out _ _ _ bs ls ?hq ?hm hwc ?hpz) ?_)); (case hq => (repeat with_reducible first | exact hlc | exact Later.refl hpb | refine jm hpb ?_ | refine jo hpb ?_)); (case hm => (repeat with_reducible first | exact hmk | refine ja ?_ | refine jb ?_)); (case hpz => (repeat (first | with_reducible exact hpk | ((with_reducible refine PkE.st (X := X1) (k := { mk with next := nb + 1 }) ?hmP (Quiet0.alloc _ _) ?_); (case hmP => (repeat with_reducible first | exact hmk | refine ja ?_ | refine jb ?_))) | ((with_reducible refine PkE.st (X := X1) (k := { mk with next := nb + 1 }) ?hmP (Quiet0.drew _) ?_); (case hmP => (repeat with_reducible first | exact hmk | refine ja ?_ | refine jb ?_))) | fail))); rintro e wx ⟨n9, o9, c9, hr9, rfl, hmk, hlx⟩; unfold tyv; (refine with_lt (pb := pb) (w0 := W4) ?hl2 hlx ?_); (case hl2 => (repeat with_reducible first | exact hlc | exact Later.refl hpb | refine jm hpb ?_ | refine jo hpb ?_)); intro hlc)
   | (go_at_call 40; (with_reducible refine Calls.mono (HAR.out _ _ n9 o9 c9 ?hblk) ?_); (case hblk => (repeat (first | ((with_reducible refine blk_new _ _ _ _ ?hbe); (case hbe => (simp; done))) | with_reducible refine blk_after (Quiet0.alloc _ _) ?_ | with_reducible refine blk_drew ?_ | fail))); rintro e wx ⟨o4, c4, rfl, hs4, hqx⟩; (refine with_new (pb := pb) (X := X1) (most := most) (k := res.2) ?hm5 hqx hs4 ?_; (case hm5 => (repeat with_reducible first | exact hmk | refine ja ?_ | refine jb ?_)); intro hs4); (refine with_ml (pb := pb) (X := X1) (most := most) (k := res.2) (w0 := W4) ?hl2 ?hm2 hqx ?_); (case hl2 => (repeat with_reducible first | exact hlc | exact Later.refl hpb | refine jm hpb ?_ | refine jo hpb ?_)); (case hm2 => (repeat with_reducible first | exact hmk | refine ja ?_ | refine jb ?_)); intro hlc hmk)
   | ((go_at_call 66; (with_reducible refine Calls.mono (HEQ.out _ n9 _ _ hr9 ?hm ?hs1) ?_)); (case hm => (repeat with_reducible first | exact hmk | refine ja ?_ | refine jb ?_)); (case hs1 => (repeat (first | with_reducible exact hs4 | ((with_reducible refine slc_st (pb := pb) (X := X1) (most := most) (k := res.2) ?hmS (Quiet0.alloc _ _) ?_); (case hmS => (repeat with_reducible first | exact hmk | refine ja ?_ | refine jb ?_))) | ((with_reducible refine slc_st (pb := pb) (X := X1) (most := most) (k := res.2) ?hmS (Quiet0.drew _) ?_); (case hmS => (repeat with_reducible first | exact hmk | refine ja ?_ | refine jb ?_))) | fail))); rintro e wx ⟨rfl, hmk, hlx⟩; (refine with_lt (pb := pb) (w0 := W4) ?hl2 hlx ?_); (case hl2 => (repeat with_reducible first | exact hlc | exact Later.refl hpb | refine jm hpb ?_ | refine jo hpb ?_)); intro hlc)
   | fail)
 all_goals
  have HM9 := hid hmk
  have HL9 := hid (HL4.out.trans hlc)
  clear hmk hlc
  obtain ⟨g0, g1, g2, _, _, _⟩ := box_cells3 (H7.out.later HL9.out).1
  have hb6 := (H62.out.later HL9.out).1
  have HB6 := hid hb6
  obtain ⟨d0, d1, d2, y0, y1, y2⟩ := box_cells3 hb6
  clear hb6
  go_wp2_with fail
  clear d0 d1 d2 y0 y1 y2
  have hf := put3_fr wx (B + 1) (.int .i64 1) (.int .i64 mk.next) (.slice oo 0 cc)
  obtain ⟨f0, f1, f2⟩ := put3_cells (a := .int .i64 1) (b := .int .i64 mk.next) (c := .slice oo 0 cc) HB6.out
  change bodyPost _ _ _ _ _ (put3 wx (B + 1) (.int .i64 1) (.int .i64 mk.next) (.slice oo 0 cc))
  generalize put3 wx (B + 1) (.int .i64 1) (.int .i64 mk.next) (.slice oo 0 cc) = wf at *
  refine bodyPost_ret (by simp [results, Tryz.results42, go_sem, f0, f1, f2]; rfl) rfl ?_
  have hp : pb < W.heap.size := by rw [hBB]; exact HP.out
  refine ⟨mk.next, oo, cc, by rw [HRES.out], rfl, ?_, (HL2.out.trans HL9.out).put hf hp (fun i hi => by omega)⟩
  rw [HRES.out]
  exact (HM9.out.put (hf.mono (fun i _ e => by rw [HX1.out]; exact Or.inr (by omega)))).less (fun i hi => by rw [HX1.out]; exact Or.inl hi)
end Em
end
section
open Go.RowKit
namespace Em
theorem term_app (h : Nd) (ps : To) (ih : ∀ i g qs, ps.get i = some (g, qs) -> TmT g qs) (hk : h.k = 5) : TmN h ps := by
 intro W R X most pb mk o1 l1 c1 o2 l2 c2 eo en ec e E hs1 hs2 hR hm hmost hb hec hz hE hok hokl hfr hN hmany
 obtain ⟨W0, hW0⟩ : ∃ W0, W0 = (W.alloc (.cells (cells9 h o1 l1 c1 o2 l2 c2) 29)).alloc (.cells #[.int .i64 0, .int .i64 0, .slice none 0 0] 24) := ⟨_, rfl⟩
 have hq0 : Quiet0 W W0 := by rw [hW0]; exact (Quiet0.alloc _ _).trans (Quiet0.alloc _ _)
 have hz0 : W0.heap.size = W.heap.size + 2 := by rw [hW0]; simp
 have h4 : Bx pb W0 W.heap.size (cells9 h o1 l1 c1 o2 l2 c2) 29 := Bx.new hm hq0 (Nat.le_refl _) (by rw [hW0]; exact blk_after (Quiet0.alloc _ _) (heap_alloc_new W _))
 have h6 : Bx pb W0 (W.heap.size + 1) #[.int .i64 0, .int .i64 0, .slice none 0 0] 24 := Bx.new hm hq0 (by omega) (by
  rw [hW0]
  have := heap_alloc_new (W.alloc (.cells (cells9 h o1 l1 c1 o2 l2 c2) 29)) (.cells #[.int .i64 0, .int .i64 0, .slice none 0 0] 24)
  simpa using this)
 have hm0 := hm.more hq0 (fun i => i = W.heap.size + 1) (fun i hi => by subst hi; omega)
 have hp := hm.lt
 have hl0 := Later.of_quiet hq0 hp
 have hnx := (termM_nm most h ps E hE.ne mk).1
 have hnb : mk.next <= 500000000 := Nat.le_trans hnx hN
 have HTK := hid (take_any hm0 (by omega))
 have HM := hid hm
 have HL0 := hid hl0
 have H4 := hid h4
 have H6 := hid h6
 have HP := hid hp
 have HS2 := hid hs2
 have HR := hid hR
 have HBF := hid hb
 have HE := hid hE
 have HOK := hid hok
 have HOKL := hid hokl
 have HFR := hid hfr
 have HNB : Hid ((termM most h ps E mk).2.next <= NBd) := hN
 have HMO := hid hmost
 have HK := hid hk
 have HGO := hid (term_go most h ps E mk hmany)
 have HM0P := hid hm0.lt
 have t2 : (h.k == 2) = false := by rw [hk]; rfl
 have t3 : (h.k == 3) = false := by rw [hk]; rfl
 have t1 : (h.k == 1) = false := by rw [hk]; rfl
 have t4 : (h.k == 4) = false := by rw [hk]; rfl
 have t6 : (h.k == 6) = false := by rw [hk]; rfl
 have t7 : (h.k == 7) = false := by rw [hk]; rfl
 have t5 : (h.k == 5) = true := by rw [hk]; rfl
 obtain ⟨X1, hX1⟩ : ∃ X1, X1 = (fun i => X i ∨ i = W.heap.size + 1) := ⟨_, rfl⟩
 have HX1 : Hid (∀ i, X1 i = (X i ∨ i = W.heap.size + 1)) := fun i => by rw [hX1]
 rw [<- hX1] at HTK
 clear hs1 hs2 hR hm hb hE hok hokl hfr hN hm0 hl0 hq0 h4 h6 hX1 hnx hk hp hz0 hmost
 have HFP : Hid (∀ j g qs, ps.get j = some (g, qs) -> Sc.free1 (names e) g qs = []) := fun j g qs hg => by
  have k := free_of HFR.out (by rw [HK.out]; decide) hg
  rwa [envOf_same _ _ (by rw [HK.out]; exact not_binds (by decide) (by decide) (by decide) j)] at k
 have IH := hid ih
 clear ih
 obtain ⟨res, hres⟩ : ∃ res, mapE E (valsM most ps) { mk with next := mk.next + 1 } = res := ⟨_, rfl⟩
 obtain ⟨fin, hfin⟩ : ∃ fin, (eqP most (tat res.1 0) (arrT (tat res.1 1) (tv mk.next)) h.fr h.en res.2).2 = fin := ⟨_, rfl⟩
 have HRES : Hid (termM most h ps E mk = (tv mk.next, fin)) := by show _ = _; rw [HGO.out, body_app HK.out, hres, hfin]
 have HRL : Hid (res.1.length = l2) := by show _ = _; rw [<- hres, mapE_length, valsM_length, HS2.out.1]
 have HRN : Hid (res.2.next <= NBd) := by
  show _ <= _
  have k := HNB.out
  rw [HRES.out] at k
  rw [<- hfin] at k
  simpa only [eqP_nx] using k
 have HEQR := hid hres
 have HFIN := hid hfin
 have hl2 : 2 <= l2 := by rw [HS2.out.1]; exact HOK.out.2.2.1 HK.out
 have hi0 : (0 : Int) < l2 := by omega
 have hj0 : 0 < l2 := by omega
 have hj1 : 2 <= l2 -> 1 < l2 := by omega
 have hj2 : 3 <= l2 -> 2 < l2 := by omega
 have hi1 : 2 <= l2 -> (1 : Int) < l2 := by omega
 have hi2 : 3 <= l2 -> (2 : Int) < l2 := by omega
 have hlz : l2 <= 100000 := by have := To.length_le ps; have := HS2.out.1; omega
 clear hres hfin
 unfold MkQ
 unfold tmv
 go_enter Tryz.func42, Tryz.ntmps42
 generalize hBB : W.heap.size = B at *
 go_upto_region 1 with fail
 rw [<- hW0]
 clear hW0
 go_wp2_with fail
 refine HTK.out.mono ?_; rintro x w1 ⟨n0, oo, cc, hn0, rfl, hm1, hl1⟩
 obtain rfl : mk.next = n0 := tv_inj hn0
 obtain ⟨W2, hW2⟩ : ∃ W2, W2 = w1.alloc (.cells #[.int .i64 1, .int .i64 mk.next, .slice oo 0 cc] 24) := ⟨_, rfl⟩
 have hq2 : Quiet0 w1 W2 := by rw [hW2]; exact Quiet0.alloc _ _
 have h7 : Bx pb W2 w1.heap.size #[.int .i64 1, .int .i64 mk.next, .slice oo 0 cc] 24 := Bx.new hm1 hq2 (Nat.le_refl _) (by rw [hW2]; exact heap_alloc_new w1 _)
 have H7 := hid h7
 have hm2 := hm1.stay hq2
 replace hm2 : MkE X1 most pb W2 { mk with next := mk.next + 1 } := hm2
 have hl2 := hl1.quiet hq2 HM0P.out
 have HM2 := hid hm2
 have HL2 := hid (HL0.out.trans hl2)
 have H42 := hid (H4.out.later hl2)
 have H62 := hid (H6.out.later hl2)
 have HP2 := hid hm2.lt
 clear hm1 hl1 hq2 h7 hm2 hl2 hn0 H4 H6 HL0 HTK
 unfold tyv
 go_upto_region 2 with fail
 change Code.wp _ _ _ _ (w1.alloc (.cells #[.int .i64 1, .int .i64 mk.next, .slice oo 0 cc] 24))
 rw [<- hW2]
 clear hW2
 generalize hC : w1.heap.size = C at *
 obtain ⟨ko, kc, kxs, hmka⟩ := HM2.out
 obtain ⟨_, _, _, q3⟩ := mk_cells hmka.box
 replace q3 : W2.cell? ⟨pb, 3, none⟩ = some (.bool false) := by rw [<- hmany]; exact q3
 obtain ⟨a0, a1, a2, a3, a4, a5, a6, a7, a8⟩ := cells9_block H42.out.1
 obtain ⟨b0, b1, b2, _, _, _⟩ := box_cells3 H7.out.1
 clear hmka
 have HPT : Hid (∀ W, Later pb W2 W -> MkE X1 most pb W { mk with next := mk.next + 1 } -> Calls Tryz.prog 71 #[.pointer (some ⟨pb, 0, none⟩), tmv h o1 l1 c1 o2 l2 c2, .slice eo en ec] W (PtQ X1 most pb W res)) := fun W' hl hmw => by
  have hl' := HL2.out.trans hl
  have k := parts_any h ps IH.out W' R X1 most pb { mk with next := mk.next + 1 } o1 l1 c1 o2 l2 c2 eo en ec e E (tslc_later HS2.out HR.out HM.out hl') HR.out hmw HMO.out (HBF.out.later hl') hec hz (HE.out.later hl' (Nat.le_succ _)) HOKL.out HFP.out (by rw [HEQR.out]; exact HRN.out)
  rw [HEQR.out] at k
  exact k
 unfold tmv at HPT
 go_wp2_with fail
 refine (HPT.out _ (Later.refl HP2.out) HM2.out).mono ?_; rintro x w3 ⟨o, c, rfl, hcl, hpt, hm3, hl3⟩
 clear a0 a1 a2 a3 a4 a5 a6 a7 a8 b0 b1 b2 q3
 obtain ⟨gp, n0, n0o, n0c, rfl, n0t, n00, n01, n02⟩ := hpt.get (i := 0) (by rw [HRL.out]; omega)
 obtain ⟨gp1, n1, n1o, n1c, e1, n1t, n10, n11, n12⟩ := hpt.get (i := 1) (by rw [HRL.out]; omega)
 obtain rfl : gp = gp1 := by cases e1; rfl
 have hgt := hpt.tf rfl (by rw [HRL.out]; omega)
 rw [HRL.out]
 have HM3 := hid hm3
 have HL3 := hid hl3
 have hpb := hm3.lt
 have HSS : Hid (∀ W, Later pb w3 W -> (W.cell? ⟨B, 0, none⟩ = some (.int .i64 h.k) /\ W.cell? ⟨B, 1, none⟩ = some (.string h.nm) /\ W.cell? ⟨B, 2, none⟩ = some (.int .i64 h.n) /\ W.cell? ⟨B, 3, none⟩ = some (.int .i64 h.tk) /\ W.cell? ⟨B, 4, none⟩ = some (.int .i64 h.tn) /\ W.cell? ⟨B, 5, none⟩ = some (.slice o1 l1 c1) /\ W.cell? ⟨B, 6, none⟩ = some (.slice o2 l2 c2) /\ W.cell? ⟨B, 7, none⟩ = some (.int .i64 h.fr) /\ W.cell? ⟨B, 8, none⟩ = some (.int .i64 h.en)) /\ (W.cell? ⟨C, 0, none⟩ = some (.int .i64 1) /\ W.cell? ⟨C, 1, none⟩ = some (.int .i64 mk.next) /\ W.cell? ⟨C, 2, none⟩ = some (.slice oo 0 cc)) /\ (W.cell? ⟨gp, 0, none⟩ = some (.int .i64 1) /\ W.cell? ⟨gp, 1, none⟩ = some (.int .i64 n0) /\ W.cell? ⟨gp, 2, none⟩ = some (.slice n0o 0 n0c)) /\ (W.cell? ⟨gp, 3, none⟩ = some (.int .i64 1) /\ W.cell? ⟨gp, 4, none⟩ = some (.int .i64 n1) /\ W.cell? ⟨gp, 5, none⟩ = some (.slice n1o 0 n1c))) := fun W hl => by
  have hl' := HL3.out.trans hl
  refine ⟨cells9_block (H42.out.later hl').1, ?_, ⟨cell_later hgt hl n00, cell_later hgt hl n01, cell_later hgt hl n02⟩, ⟨cell_later hgt hl n10, cell_later hgt hl n11, cell_later hgt hl n12⟩⟩
  obtain ⟨k0, k1, k2, _⟩ := box_cells3 (H7.out.later hl').1
  exact ⟨k0, k1, k2⟩
 have HAR : Hid (∀ (W : World) (g : Nat), W.heap[g]? = some (.cells #[.int .i64 1, .int .i64 n1, .slice n1o 0 n1c, .int .i64 1, .int .i64 mk.next, .slice oo 0 cc] 24 (0, 0)) -> Calls Tryz.prog 40 #[.slice (some ⟨g, 0, none⟩) 2 2] W (ArQ W n1 mk.next)) := fun W g hg => arr2_any hg
 have HEQ : Hid (∀ (W : World) (o4 : Option Addr) (c4 : Nat), MkE X1 most pb W res.2 -> SlcIn (TF X1 pb W) W o4 2 (arrT (tv n1) (tv mk.next)).2.2 -> Calls Tryz.prog 66 #[.pointer (some ⟨pb, 0, none⟩), .agg #[.int .i64 1, .int .i64 n0, .slice n0o 0 n0c], .agg #[.int .i64 4, .int .i64 0, .slice o4 2 c4], .agg #[.int .i64 h.fr, .int .i64 h.en]] W (MkU X1 most pb W fin)) := fun W o4 c4 hmw hs => by
  have k := equate_any (o1 := n0o) (l1 := 0) (c1 := n0c) (c2 := c4) hmw HMO.out (tv n0) (arrT (tv n1) (tv mk.next)) h.fr h.en (SlcIn.nil _ _ _) hs (by show Fo.nil.size <= _; decide) (Nat.le_of_ble_eq_true rfl)
  have e := HFIN.out
  rw [n0t, n1t] at e
  rw [e] at k
  exact k
 replace hi1 := hi1 hl2
 replace hj1 := hj1 hl2
 clear hpt hm3 hl3 hgt n0t n1t hi2 hj2
 obtain ⟨⟨a0, a1, a2, a3, a4, a5, a6, a7, a8⟩, ⟨b0, b1, b2⟩, ⟨p0, p1, p2⟩, ⟨p3, p4, p5⟩⟩ := HSS.out w3 (Later.refl hpb)
 have hmk := HM3.out
 have hlc := Later.refl hpb
 clear n00 n01 n02 n10 n11 n12
 go_upto_region 20 with fail
 go_region_held3 (fun W => (W.cell? ⟨B, 0, none⟩ = some (.int .i64 h.k) /\ W.cell? ⟨B, 1, none⟩ = some (.string h.nm) /\ W.cell? ⟨B, 2, none⟩ = some (.int .i64 h.n) /\ W.cell? ⟨B, 3, none⟩ = some (.int .i64 h.tk) /\ W.cell? ⟨B, 4, none⟩ = some (.int .i64 h.tn) /\ W.cell? ⟨B, 5, none⟩ = some (.slice o1 l1 c1) /\ W.cell? ⟨B, 6, none⟩ = some (.slice o2 l2 c2) /\ W.cell? ⟨B, 7, none⟩ = some (.int .i64 h.fr) /\ W.cell? ⟨B, 8, none⟩ = some (.int .i64 h.en)) /\ (W.cell? ⟨C, 0, none⟩ = some (.int .i64 1) /\ W.cell? ⟨C, 1, none⟩ = some (.int .i64 mk.next) /\ W.cell? ⟨C, 2, none⟩ = some (.slice oo 0 cc)) /\ (W.cell? ⟨gp, 0, none⟩ = some (.int .i64 1) /\ W.cell? ⟨gp, 1, none⟩ = some (.int .i64 n0) /\ W.cell? ⟨gp, 2, none⟩ = some (.slice n0o 0 n0c)) /\ (W.cell? ⟨gp, 3, none⟩ = some (.int .i64 1) /\ W.cell? ⟨gp, 4, none⟩ = some (.int .i64 n1) /\ W.cell? ⟨gp, 5, none⟩ = some (.slice n1o 0 n1c)))
  (((refine HSS.out _ ?_); (repeat with_reducible first | exact hlc | exact Later.refl hpb | refine jm hpb ?_ | refine jo hpb ?_)))
  (first
   | (go_at_call 40; (with_reducible refine Calls.mono (HAR.out _ _ ?hblk) ?_); (case hblk => (repeat (first | ((with_reducible refine blk_new _ _ _ _ ?hbe); (case hbe => (simp; done))) | with_reducible refine blk_after (Quiet0.alloc _ _) ?_ | with_reducible refine blk_drew ?_ | fail))); rintro e wx ⟨o4, c4, rfl, hs4, hqx⟩; (refine with_new (pb := pb) (X := X1) (most := most) (k := res.2) ?hm5 hqx hs4 ?_; (case hm5 => (repeat with_reducible first | exact hmk | refine ja ?_ | refine jb ?_)); intro hs4); (refine with_ml (pb := pb) (X := X1) (most := most) (k := res.2) (w0 := w3) ?hl2 ?hm2 hqx ?_); (case hl2 => (repeat with_reducible first | exact hlc | exact Later.refl hpb | refine jm hpb ?_ | refine jo hpb ?_)); (case hm2 => (repeat with_reducible first | exact hmk | refine ja ?_ | refine jb ?_)); intro hlc hmk)
   | ((go_at_call 66; (with_reducible refine Calls.mono (HEQ.out _ _ _ ?hm ?hs1) ?_)); (case hm => (repeat with_reducible first | exact hmk | refine ja ?_ | refine jb ?_)); (case hs1 => (repeat (first | with_reducible exact hs4 | ((with_reducible refine slc_st (pb := pb) (X := X1) (most := most) (k := res.2) ?hmS (Quiet0.alloc _ _) ?_); (case hmS => (repeat with_reducible first | exact hmk | refine ja ?_ | refine jb ?_))) | ((with_reducible refine slc_st (pb := pb) (X := X1) (most := most) (k := res.2) ?hmS (Quiet0.drew _) ?_); (case hmS => (repeat with_reducible first | exact hmk | refine ja ?_ | refine jb ?_))) | fail))); rintro e wx ⟨rfl, hmk, hlx⟩; (refine with_lt (pb := pb) (w0 := w3) ?hl2 hlx ?_); (case hl2 => (repeat with_reducible first | exact hlc | exact Later.refl hpb | refine jm hpb ?_ | refine jo hpb ?_)); intro hlc)
   | fail)
 all_goals
  have HM4 := hid hmk
  have HL4 := hid (HL3.out.trans hlc)
  clear hmk hlc
  obtain ⟨g0, g1, g2, _, _, _⟩ := box_cells3 (H7.out.later HL4.out).1
  have hb6 := (H62.out.later HL4.out).1
  have HB6 := hid hb6
  obtain ⟨d0, d1, d2, y0, y1, y2⟩ := box_cells3 hb6
  clear hb6
  go_wp2_with fail
  clear d0 d1 d2 y0 y1 y2
  have hf := put3_fr wx (B + 1) (.int .i64 1) (.int .i64 mk.next) (.slice oo 0 cc)
  obtain ⟨f0, f1, f2⟩ := put3_cells (a := .int .i64 1) (b := .int .i64 mk.next) (c := .slice oo 0 cc) HB6.out
  change bodyPost _ _ _ _ _ (put3 wx (B + 1) (.int .i64 1) (.int .i64 mk.next) (.slice oo 0 cc))
  generalize put3 wx (B + 1) (.int .i64 1) (.int .i64 mk.next) (.slice oo 0 cc) = wf at *
  refine bodyPost_ret (by simp [results, Tryz.results42, go_sem, f0, f1, f2]; rfl) rfl ?_
  have hp : pb < W.heap.size := by rw [hBB]; exact HP.out
  refine ⟨mk.next, oo, cc, by rw [HRES.out], rfl, ?_, (HL2.out.trans HL4.out).put hf hp (fun i hi => by omega)⟩
  rw [HRES.out]
  exact (HM4.out.put (hf.mono (fun i _ e => by rw [HX1.out]; exact Or.inr (by omega)))).less (fun i hi => by rw [HX1.out]; exact Or.inl hi)
end Em
end
section
open Go.RowKit
namespace Em
theorem kept_of {X : Nat -> Prop} {most : Int} {pb : Nat} {W : World} {k : Mk} {g c : Nat} {xs : List Value} (h : MkAt X most pb W k (some ⟨g, 0, none⟩) c xs) (s : Nat) : KeptAt pb W (some ⟨g, s * 8, none⟩) (k.eqs.drop s) := by
 refine .inr ⟨g, s * 8, rfl, fun W' hl => ?_⟩
 have hc : W.cell? ⟨pb, 0, none⟩ = some (.slice (some ⟨g, 0, none⟩) k.eqs.length c) := (mk_cells h.box).1
 have hlow := h.low g rfl
 have hgl := (h.own.lt g rfl).2
 have hpre := (hl.pre g _ _ hc (by omega) hgl).1
 have h1 : QAt (TF X pb W) W g 0 k.eqs := QAt.of_row h.cells (fun j u hj => by
  have := h.own.cells (g := g) rfl j u hj
  simpa [Addr.add_lit] using this)
 have h2 : QAt (TF X pb W') W' g 0 k.eqs := h1.move hl.fr (fun i hi ht => ⟨hl.tf hi ht, fun e => e.elim ht.1 ht.2.1⟩) (fun j hj => by rw [Nat.zero_add]; exact hpre j hj)
 intro i t hi
 rw [List.getElem?_drop] at hi
 obtain ⟨o1, l1, c1, o2, l2, c2, s1, s2, a0, a1, a2, a3, a4, a5, a6, a7⟩ := h2 (s + i) t hi
 have e : ∀ j, 0 + (s + i) * 8 + j = s * 8 + i * 8 + j := fun j => by omega
 have m : ∀ i, TF X pb W' i -> TF (fun _ => False) pb W' i := fun i h => ⟨h.1, h.2.1, fun h => h⟩
 refine ⟨o1, l1, c1, o2, l2, c2, s1.mono (fun i _ h => m i h), s2.mono (fun i _ h => m i h), ?_⟩
 have e0 := e 0
 simp only [Nat.add_zero] at e0
 rw [e0] at a0
 rw [e 1] at a1
 rw [e 2] at a2
 rw [e 3] at a3
 rw [e 4] at a4
 rw [e 5] at a5
 rw [e 6] at a6
 rw [e 7] at a7
 exact ⟨a0, a1, a2, a3, a4, a5, a6, a7⟩
def BindQ (X : Nat -> Prop) (most : Int) (pb : Nat) (W : World) (r : Ty × Mk) (f : Pm Ty) (x : Ending) (w' : World) : Prop := ∃ bs ls, x = .returned (.func bs #[] ls) /\ MeanT most pb r.2.next w' (.func bs #[] ls) f /\ MkE X most pb w' r.2 /\ Later pb W w'
def RecR (X : Nat -> Prop) (most : Int) (pb : Nat) (W4 : World) (rt : Ty × Mk) (v : Value) (wx : World) : Prop := ∃ F n9 o9 c9, v = .pointer (some ⟨F, 0, none⟩) /\ rt.1 = tv n9 /\ Bx pb wx F #[.int .i64 1, .int .i64 n9, .slice o9 0 c9] 24 /\ MkE X most pb wx rt.2 /\ Later pb W4 wx
theorem firstM_nm (most : Int) (h : Nd) (ps : To) {E : Env} (hE : NE E) : NM (firstM most h (valsM most ps) E) := by
 unfold firstM
 exact NM.ite (vat_nm (valsM_nm most ps) 0 hE) (NM.bind NM.take fun v => NM.bind (vat_nm (valsM_nm most ps) 0 (hE.cons (NM.pure v))) fun _ => NM.bind (NM.eqn _ _ _ _ _) fun _ => NM.pure _)
end Em
end
section
open Go.RowKit
namespace Em
theorem bind_let (h : Nd) (ps : To) (ih : ∀ i g qs, ps.get i = some (g, qs) -> TmT g qs) (hk : h.k = 6) (W : World) (R X : Nat -> Prop) (most : Int) (pb : Nat) (mk : Mk) (o1 : Option Addr) (l1 c1 : Nat) (o2 : Option Addr) (l2 c2 : Nat) (eo : Option Addr) (en ec : Nat) (e : FEnv) (E : Env)
    (hs2 : TSlc R W o2 l2 ps) (hR : ∀ i, R i -> i < pb) (hm : MkE X most pb W mk) (hmost : most <= 4096) (hb : BfE pb W eo en e) (hec : en <= ec) (hz : en + ps.size <= 100000) (hE : EnvM most pb mk.next W e E) (hok : okT h ps.length) (hokl : okTL ps) (hfr : Sc.free1 (names e) h ps = []) (hN : (firstM most h (valsM most ps) E mk).2.next <= NBd) :
    Calls Tryz.prog 70 #[.pointer (some ⟨pb, 0, none⟩), tmv h o1 l1 c1 o2 l2 c2, .slice eo en ec] W (BindQ X most pb W (firstM most h (valsM most ps) E mk) (keptM most h (valsM most ps) E mk)) := by
 have hl2 : 2 <= l2 := by rw [hs2.1]; exact hok.2.2.2.1 hk
 obtain ⟨b9, off9, u, qu, p1u, m1u, d1u, p2u, m2u, d2u, e9, _, gu, ru, cu, su, tu⟩ := hs2.nth (i := 0) (by omega)
 subst e9
 have hb9 := hR b9 ru
 obtain ⟨W0, hW0⟩ : ∃ W0, W0 = W.alloc (.cells (cells9 h o1 l1 c1 (some ⟨b9, off9, none⟩) l2 c2) 29) := ⟨_, rfl⟩
 have hq0 : Quiet0 W W0 := by rw [hW0]; exact Quiet0.alloc _ _
 have h4 : Bx pb W0 W.heap.size (cells9 h o1 l1 c1 (some ⟨b9, off9, none⟩) l2 c2) 29 := Bx.new hm hq0 (Nat.le_refl _) (by rw [hW0]; exact heap_alloc_new W _)
 have hp := hm.lt
 have hl0 := Later.of_quiet hq0 hp
 have HL0 := hid hl0
 have HM := hid hm
 have HM0 := hid (hm.stay hq0)
 have H4 := hid h4
 have HP := hid hp
 have HR := hid hR
 have HBF := hid hb
 have HE := hid hE
 have HMO := hid hmost
 have HGU := hid gu
 have HSU := hid su
 have HTU := hid tu
 have HCU := hid cu
 have HB9 := hid hb9
 have HZU := hid (To.size_get ps 0 u qu gu)
 have HOU := hid (okTL_get ps 0 u qu hokl gu)
 have IH := hid ih
 have HZ := hid hz
 have HEC := hid hec
 have hi0 : (0 : Int) < l2 := by omega
 have hj0 : 0 < l2 := by omega
 have t7 : (h.k == 7) = false := by rw [hk]; rfl
 have HFU : Hid (Sc.free1 (names e) u qu = []) := by
  show _ = _
  have k := free_of hfr (by rw [hk]; decide) gu
  rwa [envOf_same _ _ (by rw [hk]; rfl)] at k
 obtain ⟨res, hres⟩ : ∃ res, termM most u qu E mk = res := ⟨_, rfl⟩
 have hf : firstM most h (valsM most ps) E mk = res := by rw [<- hres]; unfold firstM; rw [if_pos hk, vat_get gu]
 have HRN : Hid (res.2.next <= NBd) := by show _ <= _; rw [<- hf]; exact hN
 have HKM : Hid (keptM most h (valsM most ps) E mk = copied most (res.2.eqs.drop mk.eqs.length) res.1 mk.next res.2.next) := by show _ = _; unfold keptM; rw [hf]
 have HMON : Hid (mk.next <= res.2.next /\ mk.eqs.length <= res.2.eqs.length) := by
  have k := termM_nm most u qu E hE.ne mk
  rw [hres] at k
  exact k
 have HEQR := hid hres
 rw [hf]
 rw [HKM.out]
 obtain ⟨o0, k0, xs0, hmka⟩ := HM0.out
 obtain ⟨q0, q1, q2, q3⟩ := mk_cells hmka.box
 have hsl : ∀ j, j = mk.eqs.length -> (0 : Int) <= (j : Int) := fun j _ => by omega
 have hfew := hmka.few
 clear hsl hmka
 obtain ⟨a0, a1, a2, a3, a4, a5, a6, a7, a8⟩ := cells9_block H4.out.1
 clear hk hs2 hR hm hb hE hok hokl hfr hN hl0 hq0 h4 hp hf hmost gu su tu cu hb9 ru ih hz hec
 obtain ⟨start, hstart⟩ : ∃ start, mk.eqs.length = start := ⟨_, rfl⟩
 have HST := hid hstart
 rw [hstart] at q0 hfew
 clear hstart
 unfold tmv
 go_enter Tryz.func70, Tryz.ntmps70
 generalize hBB : W.heap.size = B at *
 go_upto_region 1 with fail
 rw [<- hW0]
 clear hW0
 go_quiet (fail)
 have hqn := Quiet0.drewN W0 nq
 obtain ⟨W1, hW1⟩ : ∃ W1, W1 = (W0.drewN nq).alloc (.cells #[.int .i64 0, .int .i64 0, .slice none 0 0] 24) := ⟨_, rfl⟩
 have hq1 : Quiet0 W0 W1 := by rw [hW1]; exact hqn.trans (Quiet0.alloc _ _)
 have h9 : Bx pb W1 W0.heap.size #[.int .i64 0, .int .i64 0, .slice none 0 0] 24 := Bx.new HM0.out hq1 (Nat.le_refl _) (by rw [hW1]; exact heap_alloc_new (W0.drewN nq) _)
 have hz1 : W0.heap.size < W1.heap.size := by rw [hW1]; simp [World.drewN]
 have hm1 := HM0.out.more hq1 (fun i => i = W0.heap.size) (fun i hi => by subst hi; exact ⟨Nat.le_refl _, hz1⟩)
 obtain ⟨X1, hX1⟩ : ∃ X1, X1 = (fun i => X i ∨ i = W0.heap.size) := ⟨_, rfl⟩
 have HX1 : Hid (∀ i, X1 i = (X i ∨ i = W0.heap.size)) := fun i => by rw [hX1]
 rw [<- hX1] at hm1
 have HM1 := hid hm1
 have HPW : Hid (pb < W.heap.size) := by show pb < _; rw [hBB]; exact HP.out
 have HL1 := hid (HL0.out.quiet hq1 HPW.out)
 have H9 := hid h9
 have H41 := hid (H4.out.later (Later.of_quiet hq1 HM0.out.lt))
 have HB1 : Hid (B < W0.heap.size) := lt_of_block H4.out.1
 have HB0 : Hid (B <= W0.heap.size) := by show B <= _; rw [<- hBB]; exact (HL0.out).size
 clear hq1 hm1 h9 hqn hX1 hz1 q0 q1 q2 q3 a0 a1 a2 a3 a4 a5 a6 a7 a8
 go_upto_region 3 with fail
 change Code.wp _ _ _ _ ((W0.drewN nq).alloc (.cells #[.int .i64 0, .int .i64 0, .slice none 0 0] 24))
 rw [<- hW1]
 clear hW1
 have hD0 : (W0.drewN nq).heap.size = W0.heap.size := rfl
 try rw [hD0]
 clear hD0
 generalize hD : W0.heap.size = D at *
 clear HL0 HM0 H4 hD
 obtain ⟨a0, a1, a2, a3, a4, a5, a6, a7, a8⟩ := cells9_block H41.out.1
 have hcu9 : (W1.cell? ⟨b9, off9, none⟩ = some (.int .i64 u.k) /\ W1.cell? ⟨b9, off9 + 1, none⟩ = some (.string u.nm) /\ W1.cell? ⟨b9, off9 + 2, none⟩ = some (.int .i64 u.n) /\ W1.cell? ⟨b9, off9 + 3, none⟩ = some (.int .i64 u.tk) /\ W1.cell? ⟨b9, off9 + 4, none⟩ = some (.int .i64 u.tn) /\ W1.cell? ⟨b9, off9 + 5, none⟩ = some (.slice p1u m1u d1u) /\ W1.cell? ⟨b9, off9 + 6, none⟩ = some (.slice p2u m2u d2u) /\ W1.cell? ⟨b9, off9 + 7, none⟩ = some (.int .i64 u.fr) /\ W1.cell? ⟨b9, off9 + 8, none⟩ = some (.int .i64 u.en)) := cells_later HCU.out HB9.out HM.out HL1.out
 obtain ⟨v0, v1, v2, v3, v4, v5, v6, v7, v8⟩ := hcu9
 obtain ⟨d0, d1, d2, y0, y1, y2⟩ := box_cells3 H9.out.1
 have HTM : Hid (Calls Tryz.prog 42 #[.pointer (some ⟨pb, 0, none⟩), tmv u p1u m1u d1u p2u m2u d2u, .slice eo en ec] W1 (MkQ X1 most pb W1 res)) := by
  have k := IH.out 0 u qu HGU.out W1 R X1 most pb mk p1u m1u d1u p2u m2u d2u eo en ec _ _ (slcin_later HSU.out HR.out HM.out HL1.out) (tslc_later HTU.out HR.out HM.out HL1.out) HR.out HM1.out HMO.out (HBF.out.later HL1.out) HEC.out (by have := HZU.out; have := HZ.out; omega) (HE.out.later HL1.out (Nat.le_refl _)) HOU.out.1 HOU.out.2 HFU.out (by rw [HEQR.out]; exact HRN.out)
  rw [HEQR.out] at k
  exact k
 unfold tmv at HTM
 go_wp2_with fail
 refine HTM.out.mono ?_; rintro x w3 ⟨nv, ov, cv, hnv, rfl, hm3, hl3⟩
 have h93 := H9.out.later hl3
 have hl13 := HL1.out.trans hl3
 obtain ⟨d0', d1', d2', y0', y1', y2'⟩ := box_cells3 h93.1
 clear a0 a1 a2 a3 a4 a5 a6 a7 a8 v0 v1 v2 v3 v4 v5 v6 v7 v8 d0 d1 d2 y0 y1 y2
 have HM3 := hid hm3
 have HL3 := hid hl13
 have HL13 := hid hl3
 have H93 := hid h93
 have HNV := hid hnv
 clear hm3 hl3 h93 hl13 hnv
 unfold tyv
 go_upto_region 8 with fail
 clear d0' d1' d2' y0' y1' y2'
 obtain ⟨W5, hW5⟩ : ∃ W5, W5 = put3 w3 D (.int .i64 1) (.int .i64 nv) (.slice ov 0 cv) := ⟨_, rfl⟩
 change Code.wp _ _ _ _ (put3 w3 D (.int .i64 1) (.int .i64 nv) (.slice ov 0 cv))
 have hf5 := put3_fr w3 D (.int .i64 1) (.int .i64 nv) (.slice ov 0 cv)
 obtain ⟨f0, f1, f2⟩ := put3_cells (a := .int .i64 1) (b := .int .i64 nv) (c := .slice ov 0 cv) H93.out.1
 rw [<- hW5] at hf5 f0 f1 f2 ⊢
 clear hW5
 have HM5 := hid (HM3.out.put (hf5.mono (fun i _ e => by rw [HX1.out]; exact Or.inr e)))
 have HL5 := hid (HL3.out.put hf5 HPW.out (fun i hi => by have := HB0.out; omega))
 clear HM3 HL13 H93 hf5
 obtain ⟨o5, c5, xs5, hmk5⟩ := HM5.out
 obtain ⟨q0, q1, q2, q3⟩ := mk_cells hmk5.box
 obtain ⟨ln, hln⟩ : ∃ ln, res.2.eqs.length = ln := ⟨_, rfl⟩
 have hle : start <= ln := by have := HMON.out.2; rw [HST.out, hln] at this; exact this
 have hform := hmk5.form
 have hlz : ln <= 4096 := by have := hmk5.few; omega
 have hsml := hmk5.small
 rw [hln] at q0 hform
 have HLN := hid hln
 have hs0 : (0 : Int) <= start := by omega
 have hs1 : (start : Int) <= ln := by omega
 have hs2 : (ln : Int) <= ln := Int.le_refl _
 have hs3 : IntKind.i64.wrap ((ln : Int) - start) = ((ln - start : Nat) : Int) := by rw [IntWalk.i64_in _ (by omega)]; omega
 have hkd : (res.2.eqs.drop start).length = ln - start /\ ∀ t ∈ res.2.eqs.drop start, t.1.2.2.size <= 100000 /\ t.2.1.2.2.size <= 100000 := by
  exact ⟨by rw [List.length_drop, HLN.out], fun t ht => hsml t (List.mem_of_mem_drop ht)⟩
 have HMK5 := hid hmk5
 have HNIL : Hid (ln = start -> ∀ ko, KeptAt pb W5 ko (res.2.eqs.drop start)) := fun he ko => .inl (List.eq_nil_of_length_eq_zero (by rw [List.length_drop, HLN.out]; omega))
 have HCP : Hid (∀ ko, KeptAt pb W5 ko (res.2.eqs.drop start) -> Calls Tryz.prog 99 #[.slice ko (ln - start) (ln - start), .agg #[.int .i64 1, .int .i64 nv, .slice ov 0 cv], .int .i64 mk.next, .int .i64 res.2.next] W5.drew fun x w' => ∃ bs ls, x = .returned (.func bs #[] ls) /\ MeanT most pb res.2.next w' (.func bs #[] ls) (copied most (res.2.eqs.drop start) (tv nv) mk.next res.2.next) /\ Quiet0 W5.drew w') := fun ko hk => by
  have hl := Later.of_quiet (Quiet0.drew W5) HM5.out.lt
  have k := copied_any (lo := res.2.next) (HM5.out.stay (Quiet0.drew W5)) HMO.out nv mk.next res.2.next (res.2.eqs.drop start) ko (ln - start) ov cv (hk.later hl) (by rw [hkd.1]; omega) hkd.2 HMON.out.1 (Nat.le_refl _)
  rw [hkd.1] at k
  exact k
 unfold tyv at HCP
 have HRV : Hid (res.1 = tv nv) := HNV.out
 clear hmk5 hln hkd hsml
 go_upto_region 8 with fail
 rcases hform with ⟨h1, h2, h3⟩ | ⟨g, h1, _, _, h4⟩
 ·subst h1
  subst h2
  subst h3
  obtain rfl : start = 0 := by omega
  have HCQ := hid (HCP.out none (HNIL.out rfl none))
  refine wp_region_still_tail 22 (by kernel_rfl) (by kernel_rfl) ?_
  simp only [List.take_succ_cons, List.take_zero, List.drop_succ_cons, List.drop_zero]
  change wpStill _ _ (World.drew W5) _ _ _
  repeat still_step
  refine wpStill_nil ?_
  change wpList _ _ _ _ _ (World.drew W5)
  go_wp2_with fail
  refine HCQ.out.mono ?_; rintro x w6 ⟨bs, ls, rfl, hme, hq6⟩
  go_wp2_with fail
  go_ret
  have hq5 := (Quiet0.drew W5).trans hq6
  exact ⟨bs, ls, rfl, by rw [HST.out, HRV.out]; exact hme, (HM5.out.stay hq5).less (fun i hi => by rw [HX1.out]; exact Or.inl hi), HL5.out.quiet hq5 HPW.out⟩
 ·subst h1
  have hs4 : (ln : Int) <= c5 := by omega
  by_cases hls : ln = start
  ·subst hls
   have HCQ := hid (HCP.out (some ⟨g, 0, none⟩) (HNIL.out rfl _))
   simp only [Nat.sub_self] at HCQ hs3
   refine wp_region_still_tail 22 (by kernel_rfl) (by kernel_rfl) ?_
   simp only [List.take_succ_cons, List.take_zero, List.drop_succ_cons, List.drop_zero]
   change wpStill _ _ (World.drew W5) _ _ _
   repeat still_step
   refine wpStill_nil ?_
   change wpList _ _ _ _ _ (World.drew W5)
   go_wp2_with fail
   refine HCQ.out.mono ?_; rintro x w6 ⟨bs, ls, rfl, hme, hq6⟩
   go_wp2_with fail
   go_ret
   have hq5 := (Quiet0.drew W5).trans hq6
   exact ⟨bs, ls, rfl, by rw [HST.out, HRV.out]; exact hme, (HM5.out.stay hq5).less (fun i hi => by rw [HX1.out]; exact Or.inl hi), HL5.out.quiet hq5 HPW.out⟩
  ·have hne1 : ¬ (ln - start = 0) := by omega
   have hne2 : ¬ (ln <= start) := by omega
   have hne3 : start < ln := by omega
   have hne4 : 0 < ln - start := by omega
   have HCQ := hid (HCP.out (some ⟨g, start * 8, none⟩) (kept_of HMK5.out start))
   refine wp_region_still_tail 22 (by kernel_rfl) (by kernel_rfl) ?_
   simp only [List.take_succ_cons, List.take_zero, List.drop_succ_cons, List.drop_zero]
   change wpStill _ _ (World.drew W5) _ _ _
   repeat still_step
   refine wpStill_nil ?_
   change wpList _ _ _ _ _ (World.drew W5)
   go_wp2_with fail
   refine HCQ.out.mono ?_; rintro x w6 ⟨bs, ls, rfl, hme, hq6⟩
   go_wp2_with fail
   go_ret
   have hq5 := (Quiet0.drew W5).trans hq6
   exact ⟨bs, ls, rfl, by rw [HST.out, HRV.out]; exact hme, (HM5.out.stay hq5).less (fun i hi => by rw [HX1.out]; exact Or.inl hi), HL5.out.quiet hq5 HPW.out⟩
end Em
end
end Go.Proofs.YtcninopmelmajaaGreatDoor
