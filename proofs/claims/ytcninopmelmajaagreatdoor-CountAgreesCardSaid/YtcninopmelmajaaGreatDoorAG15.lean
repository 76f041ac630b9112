/-
  Texts laid together (EqTLet, EqTIf, EqTTup): laws and walks, with their conditions.
-/
import Derived.Test.YtcninopmelmajaaGreatDoorAG14
set_option maxHeartbeats 8000000
set_option maxRecDepth 1000000
namespace Go.Proofs.YtcninopmelmajaaGreatDoor
open Go.Lib (hid)
section
open Go.RowKit
namespace Em
theorem term_let (h : Nd) (ps : To) (ih : ∀ i g qs, ps.get i = some (g, qs) -> TmT g qs) (hk : h.k = 6) : TmN h ps := by
 intro W R X most pb mk o1 l1 c1 o2 l2 c2 eo en ec e E hs1 hs2 hR hm hmost hb hec hz hE hok hokl hfr hN hmany
 obtain ⟨W0, hW0⟩ : ∃ W0, W0 = (W.alloc (.cells (cells9 h o1 l1 c1 o2 l2 c2) 29)).alloc (.cells #[.int .i64 0, .int .i64 0, .slice none 0 0] 24) := ⟨_, rfl⟩
 have hq0 : Quiet0 W W0 := by rw [hW0]; exact (Quiet0.alloc _ _).trans (Quiet0.alloc _ _)
 have hz0 : W0.heap.size = W.heap.size + 2 := by rw [hW0]; simp
 have h4 : Bx pb W0 W.heap.size (cells9 h o1 l1 c1 o2 l2 c2) 29 := Bx.new hm hq0 (Nat.le_refl _) (by rw [hW0]; exact blk_after (Quiet0.alloc _ _) (heap_alloc_new W _))
 have h6 : Bx pb W0 (W.heap.size + 1) #[.int .i64 0, .int .i64 0, .slice none 0 0] 24 := Bx.new hm hq0 (by omega) (by
  rw [hW0]
  have := heap_alloc_new (W.alloc (.cells (cells9 h o1 l1 c1 o2 l2 c2) 29)) (.cells #[.int .i64 0, .int .i64 0, .slice none 0 0] 24)
  simpa using this)
 have hm0 := hm.more hq0 (fun i => i = W.heap.size + 1) (fun i hi => by subst hi; omega)
 have hp := hm.lt
 have hl0 := Later.of_quiet hq0 hp
 have hnx := (termM_nm most h ps E hE.ne mk).1
 have hnb : mk.next <= 500000000 := Nat.le_trans hnx hN
 have HTK := hid (take_any hm0 (by omega))
 have HM := hid hm
 have HL0 := hid hl0
 have H4 := hid h4
 have H6 := hid h6
 have HP := hid hp
 have HS2 := hid hs2
 have HR := hid hR
 have HBF := hid hb
 have HE := hid hE
 have HOK := hid hok
 have HOKL := hid hokl
 have HFR := hid hfr
 have HNB : Hid ((termM most h ps E mk).2.next <= NBd) := hN
 have HMO := hid hmost
 have HK := hid hk
 have HGO := hid (term_go most h ps E mk hmany)
 have HM0P := hid hm0.lt
 have t2 : (h.k == 2) = false := by rw [hk]; rfl
 have t3 : (h.k == 3) = false := by rw [hk]; rfl
 have t1 : (h.k == 1) = false := by rw [hk]; rfl
 have t4 : (h.k == 4) = false := by rw [hk]; rfl
 have t6 : (h.k == 6) = true := by rw [hk]; rfl
 obtain ⟨X1, hX1⟩ : ∃ X1, X1 = (fun i => X i ∨ i = W.heap.size + 1) := ⟨_, rfl⟩
 have HX1 : Hid (∀ i, X1 i = (X i ∨ i = W.heap.size + 1)) := fun i => by rw [hX1]
 rw [<- hX1] at HTK
 clear hs1 hs2 hR hm hb hE hok hokl hfr hN hm0 hl0 hq0 h4 h6 hX1 hnx hk hp hz0 hmost
 have IH := hid ih
 clear ih
 have hl2 : 2 <= l2 := by rw [HS2.out.1]; exact HOK.out.2.2.2.1 HK.out
 have hi1 : (1 : Int) < l2 := by omega
 have hj1 : 1 < l2 := by omega
 obtain ⟨b9, off9, u, qu, p1u, m1u, d1u, p2u, m2u, d2u, e9, _, gu, ru, cu, su, tu⟩ := HS2.out.nth (i := 1) (by omega)
 subst e9
 have hb9 := HR.out b9 ru
 have HGU := hid gu
 have HSU := hid su
 have HTU := hid tu
 have HZU := hid (To.size_get ps 1 u qu gu)
 have HOU := hid (okTL_get ps 1 u qu HOKL.out gu)
 have HFU : Hid (Sc.free1 (h.nm :: names e) u qu = []) := by
  show _ = _
  have k := free_of HFR.out (by rw [HK.out]; decide) gu
  rwa [envOf_more _ _ (by rw [HK.out]; rfl)] at k
 obtain ⟨fm, hfm⟩ : ∃ fm, firstM most h (valsM most ps) E { mk with next := mk.next + 1 } = fm := ⟨_, rfl⟩
 obtain ⟨km, hkm⟩ : ∃ km, keptM most h (valsM most ps) E { mk with next := mk.next + 1 } = km := ⟨_, rfl⟩
 obtain ⟨res, hres⟩ : ∃ res, termM most u qu ((h.nm, km) :: E) fm.2 = res := ⟨_, rfl⟩
 obtain ⟨fin, hfin⟩ : ∃ fin, (eqP most (tv mk.next) res.1 h.fr h.en res.2).2 = fin := ⟨_, rfl⟩
 have HRES : Hid (termM most h ps E mk = (tv mk.next, fin)) := by show _ = _; rw [HGO.out, body_let (by rw [HK.out]; decide), vat_get HGU.out, hkm, hfm, hres, hfin]
 have HKN : Hid (NM km) := by show NM km; rw [<- hkm]; exact copied_nm _ _ _ _ _
 have HRN : Hid (res.2.next <= NBd) := by
  show _ <= _
  have k := HNB.out
  rw [HRES.out, <- hfin] at k
  simpa only [eqP_nx] using k
 have HFN : Hid (fm.2.next <= NBd) := by
  show _ <= _
  have k := (termM_nm most u qu ((h.nm, km) :: E) (HE.out.ne.cons HKN.out) fm.2).1
  rw [hres] at k
  exact Nat.le_trans k HRN.out
 have HFL : Hid (mk.next <= fm.2.next) := by
  show _ <= _
  have k := (firstM_nm most h ps HE.out.ne { mk with next := mk.next + 1 }).1
  rw [hfm] at k
  exact Nat.le_trans (Nat.le_succ _) k
 have HFM := hid hfm
 have HKM := hid hkm
 have HEQR := hid hres
 have HFIN := hid hfin
 clear hres hfin hfm hkm gu su tu
 unfold MkQ
 unfold tmv
 go_enter Tryz.func42, Tryz.ntmps42
 generalize hBB : W.heap.size = B at *
 go_upto_region 1 with fail
 rw [<- hW0]
 clear hW0
 go_wp2_with fail
 refine HTK.out.mono ?_; rintro x w1 ⟨n0, oo, cc, hn0, rfl, hm1, hl1⟩
 obtain rfl : mk.next = n0 := tv_inj hn0
 obtain ⟨W2, hW2⟩ : ∃ W2, W2 = w1.alloc (.cells #[.int .i64 1, .int .i64 mk.next, .slice oo 0 cc] 24) := ⟨_, rfl⟩
 have hq2 : Quiet0 w1 W2 := by rw [hW2]; exact Quiet0.alloc _ _
 have h7 : Bx pb W2 w1.heap.size #[.int .i64 1, .int .i64 mk.next, .slice oo 0 cc] 24 := Bx.new hm1 hq2 (Nat.le_refl _) (by rw [hW2]; exact heap_alloc_new w1 _)
 have H7 := hid h7
 have hm2 := hm1.stay hq2
 replace hm2 : MkE X1 most pb W2 { mk with next := mk.next + 1 } := hm2
 have hl2 := hl1.quiet hq2 HM0P.out
 have HM2 := hid hm2
 have HL2 := hid (HL0.out.trans hl2)
 have H42 := hid (H4.out.later hl2)
 have H62 := hid (H6.out.later hl2)
 clear hm1 hl1 hq2 h7 hm2 hl2 hn0 H4 H6 HL0 HTK
 unfold tyv
 go_upto_region 2 with fail
 change Code.wp _ _ _ _ (w1.alloc (.cells #[.int .i64 1, .int .i64 mk.next, .slice oo 0 cc] 24))
 rw [<- hW2]
 clear hW2
 generalize hC : w1.heap.size = C at *
 obtain ⟨ko, kc, kxs, hmka⟩ := HM2.out
 obtain ⟨_, _, _, q3⟩ := mk_cells hmka.box
 replace q3 : W2.cell? ⟨pb, 3, none⟩ = some (.bool false) := by rw [<- hmany]; exact q3
 obtain ⟨a0, a1, a2, a3, a4, a5, a6, a7, a8⟩ := cells9_block H42.out.1
 obtain ⟨b0, b1, b2, _, _, _⟩ := box_cells3 H7.out.1
 clear hmka
 have HBD : Hid (Calls Tryz.prog 70 #[.pointer (some ⟨pb, 0, none⟩), tmv h o1 l1 c1 (some ⟨b9, off9, none⟩) l2 c2, .slice eo en ec] W2 (BindQ X1 most pb W2 fm km)) := by
  have k := bind_let h ps IH.out HK.out W2 R X1 most pb { mk with next := mk.next + 1 } o1 l1 c1 (some ⟨b9, off9, none⟩) l2 c2 eo en ec e E (tslc_later HS2.out HR.out HM.out HL2.out) HR.out HM2.out HMO.out (HBF.out.later HL2.out) hec hz (HE.out.later HL2.out (Nat.le_succ _)) HOK.out HOKL.out HFR.out (by rw [HFM.out]; exact HFN.out)
  rw [HFM.out, HKM.out] at k
  exact k
 unfold tmv at HBD
 go_wp2_with fail
 refine HBD.out.mono ?_; rintro x w3 ⟨bs, ls, rfl, hme, hm3, hl3⟩
 have HM3 := hid hm3
 have HL3 := hid hl3
 have HME := hid hme
 have hpb := hm3.lt
 clear hm3 hl3 hme a0 a1 a2 a3 a4 a5 a6 a7 a8 b0 b1 b2 q3
 have HSS : Hid (∀ W, Later pb w3 W -> (W.cell? ⟨B, 0, none⟩ = some (.int .i64 h.k) /\ W.cell? ⟨B, 1, none⟩ = some (.string h.nm) /\ W.cell? ⟨B, 2, none⟩ = some (.int .i64 h.n) /\ W.cell? ⟨B, 3, none⟩ = some (.int .i64 h.tk) /\ W.cell? ⟨B, 4, none⟩ = some (.int .i64 h.tn) /\ W.cell? ⟨B, 5, none⟩ = some (.slice o1 l1 c1) /\ W.cell? ⟨B, 6, none⟩ = some (.slice (some ⟨b9, off9, none⟩) l2 c2) /\ W.cell? ⟨B, 7, none⟩ = some (.int .i64 h.fr) /\ W.cell? ⟨B, 8, none⟩ = some (.int .i64 h.en)) /\ (W.cell? ⟨C, 0, none⟩ = some (.int .i64 1) /\ W.cell? ⟨C, 1, none⟩ = some (.int .i64 mk.next) /\ W.cell? ⟨C, 2, none⟩ = some (.slice oo 0 cc)) /\ (W.cell? ⟨b9, off9 + 9, none⟩ = some (.int .i64 u.k) /\ W.cell? ⟨b9, off9 + 9 + 1, none⟩ = some (.string u.nm) /\ W.cell? ⟨b9, off9 + 9 + 2, none⟩ = some (.int .i64 u.n) /\ W.cell? ⟨b9, off9 + 9 + 3, none⟩ = some (.int .i64 u.tk) /\ W.cell? ⟨b9, off9 + 9 + 4, none⟩ = some (.int .i64 u.tn) /\ W.cell? ⟨b9, off9 + 9 + 5, none⟩ = some (.slice p1u m1u d1u) /\ W.cell? ⟨b9, off9 + 9 + 6, none⟩ = some (.slice p2u m2u d2u) /\ W.cell? ⟨b9, off9 + 9 + 7, none⟩ = some (.int .i64 u.fr) /\ W.cell? ⟨b9, off9 + 9 + 8, none⟩ = some (.int .i64 u.en))) := fun W' hl => by
  have hl' := HL3.out.trans hl
  obtain ⟨k0, k1, k2, _⟩ := box_cells3 (H7.out.later hl').1
  exact ⟨cells9_block (H42.out.later hl').1, ⟨k0, k1, k2⟩, cells_later cu hb9 HM.out (HL2.out.trans hl')⟩
 have HWT : Hid (∀ W, Later pb w3 W -> MkE X1 most pb W fm.2 -> Calls Tryz.prog 68 #[.slice eo en ec, .string h.nm, .func bs #[] ls] W (WtQ most pb fm.2.next W (en + 1) ((h.nm, .func bs #[] ls) :: e) ((h.nm, km) :: E))) := fun W hl hm => by
  have hl' := HL2.out.trans (HL3.out.trans hl)
  exact with2_any h.nm hm (HBF.out.later hl') (HE.out.later hl' HFL.out) hec (by omega) (HME.out.later hl (Nat.le_refl _)) HKN.out
 have HTM : Hid (∀ W o c, Later pb w3 W -> MkE X1 most pb W fm.2 -> en + 1 <= c -> PkE most pb fm.2.next W o (en + 1) ((h.nm, .func bs #[] ls) :: e) ((h.nm, km) :: E) -> Calls Tryz.prog 42 #[.pointer (some ⟨pb, 0, none⟩), tmv u p1u m1u d1u p2u m2u d2u, .slice o (en + 1) c] W (MkQ X1 most pb W res)) := fun W o c hl hm hc hpk => by
  have hl' := HL2.out.trans (HL3.out.trans hl)
  have k := IH.out 1 u qu HGU.out W R X1 most pb fm.2 p1u m1u d1u p2u m2u d2u o (en + 1) c _ _ (slcin_later HSU.out HR.out HM.out hl') (tslc_later HTU.out HR.out HM.out hl') HR.out hm HMO.out hpk.1 hc (by have := HZU.out; omega) hpk.2 HOU.out.1 HOU.out.2 HFU.out (by rw [HEQR.out]; exact HRN.out)
  rw [HEQR.out] at k
  exact k
 have HEQ : Hid (∀ (W : World) (n9 : Nat) (o9 : Option Addr) (c9 : Nat), res.1 = tv n9 -> MkE X1 most pb W res.2 -> Calls Tryz.prog 66 #[.pointer (some ⟨pb, 0, none⟩), .agg #[.int .i64 1, .int .i64 mk.next, .slice oo 0 cc], .agg #[.int .i64 1, .int .i64 n9, .slice o9 0 c9], .agg #[.int .i64 h.fr, .int .i64 h.en]] W (MkU X1 most pb W fin)) := fun W n9 o9 c9 hr hmw => by
  have k := equate_any (o1 := oo) (l1 := 0) (c1 := cc) (o2 := o9) (l2 := 0) (c2 := c9) hmw HMO.out (tv mk.next) (tv n9) h.fr h.en (SlcIn.nil _ _ _) (SlcIn.nil _ _ _) (Nat.le_of_ble_eq_true rfl) (Nat.le_of_ble_eq_true rfl)
  rw [<- hr, HFIN.out] at k
  rw [hr] at k
  exact k
 have hmk := HM3.out
 have hlc := Later.refl hpb
 obtain ⟨⟨a0, a1, a2, a3, a4, a5, a6, a7, a8⟩, ⟨b0, b1, b2⟩, ⟨v0, v1, v2, v3, v4, v5, v6, v7, v8⟩⟩ := HSS.out w3 (Later.refl hpb)
 unfold tmv at HTM
 clear cu hb9 ru
 go_upto_region 17 with fail
 go_region_held3 (fun W => (W.cell? ⟨B, 0, none⟩ = some (.int .i64 h.k) /\ W.cell? ⟨B, 1, none⟩ = some (.string h.nm) /\ W.cell? ⟨B, 2, none⟩ = some (.int .i64 h.n) /\ W.cell? ⟨B, 3, none⟩ = some (.int .i64 h.tk) /\ W.cell? ⟨B, 4, none⟩ = some (.int .i64 h.tn) /\ W.cell? ⟨B, 5, none⟩ = some (.slice o1 l1 c1) /\ W.cell? ⟨B, 6, none⟩ = some (.slice (some ⟨b9, off9, none⟩) l2 c2) /\ W.cell? ⟨B, 7, none⟩ = some (.int .i64 h.fr) /\ W.cell? ⟨B, 8, none⟩ = some (.int .i64 h.en)) /\ (W.cell? ⟨C, 0, none⟩ = some (.int .i64 1) /\ W.cell? ⟨C, 1, none⟩ = some (.int .i64 mk.next) /\ W.cell? ⟨C, 2, none⟩ = some (.slice oo 0 cc)) /\ (W.cell? ⟨b9, off9 + 9, none⟩ = some (.int .i64 u.k) /\ W.cell? ⟨b9, off9 + 9 + 1, none⟩ = some (.string u.nm) /\ W.cell? ⟨b9, off9 + 9 + 2, none⟩ = some (.int .i64 u.n) /\ W.cell? ⟨b9, off9 + 9 + 3, none⟩ = some (.int .i64 u.tk) /\ W.cell? ⟨b9, off9 + 9 + 4, none⟩ = some (.int .i64 u.tn) /\ W.cell? ⟨b9, off9 + 9 + 5, none⟩ = some (.slice p1u m1u d1u) /\ W.cell? ⟨b9, off9 + 9 + 6, none⟩ = some (.slice p2u m2u d2u) /\ W.cell? ⟨b9, off9 + 9 + 7, none⟩ = some (.int .i64 u.fr) /\ W.cell? ⟨b9, off9 + 9 + 8, none⟩ = some (.int .i64 u.en)))
  (((refine HSS.out _ ?_); (repeat with_reducible first | exact hlc | exact Later.refl hpb | refine jm hpb ?_ | refine jo hpb ?_)))
  (first
   | (go_at_call 68; (with_reducible refine Calls.mono (HWT.out _ ?hq ?hm) ?_); (case hq => (repeat with_reducible first | exact hlc | exact Later.refl hpb | refine jm hpb ?_ | refine jo hpb ?_)); (case hm => (repeat with_reducible first | exact hmk | refine ja ?_ | refine jb ?_)); rintro e wx ⟨wo, wc, rfl, hwc, hpk, hqx⟩; (refine with_ml (pb := pb) (X := X1) (most := most) (k := fm.2) (w0 := w3) ?hl2 ?hm2 hqx ?_); (case hl2 => (repeat with_reducible first | exact hlc | exact Later.refl hpb | refine jm hpb ?_ | refine jo hpb ?_)); (case hm2 => (repeat with_reducible first | exact hmk | refine ja ?_ | refine jb ?_)); intro hlc hmk)
   | ((go_at_call 42; (with_reducible refine Calls.mono (HTM.out _ _ _ ?hq ?hm hwc ?hpz) ?_)); (case hq => (repeat with_reducible first | exact hlc | exact Later.refl hpb | refine jm hpb ?_ | refine jo hpb ?_)); (case hm => (repeat with_reducible first | exact hmk | refine ja ?_ | refine jb ?_)); (case hpz => (repeat (first | with_reducible exact hpk | ((with_reducible refine PkE.st (X := X1) (k := fm.2) ?hmP (Quiet0.alloc _ _) ?_); (case hmP => (repeat with_reducible first | exact hmk | refine ja ?_ | refine jb ?_))) | ((with_reducible refine PkE.st (X := X1) (k := fm.2) ?hmP (Quiet0.drew _) ?_); (case hmP => (repeat with_reducible first | exact hmk | refine ja ?_ | refine jb ?_))) | fail))); rintro e wx ⟨n9, o9, c9, hr9, rfl, hmk, hlx⟩; unfold tyv; (refine with_lt (pb := pb) (w0 := w3) ?hl2 hlx ?_); (case hl2 => (repeat with_reducible first | exact hlc | exact Later.refl hpb | refine jm hpb ?_ | refine jo hpb ?_)); intro hlc)
   | ((go_at_call 66; (with_reducible refine Calls.mono (HEQ.out _ n9 _ _ hr9 ?hm) ?_)); (case hm => (repeat with_reducible first | exact hmk | refine ja ?_ | refine jb ?_)); rintro e wx ⟨rfl, hmk, hlx⟩; (refine with_lt (pb := pb) (w0 := w3) ?hl2 hlx ?_); (case hl2 => (repeat with_reducible first | exact hlc | exact Later.refl hpb | refine jm hpb ?_ | refine jo hpb ?_)); intro hlc)
   | fail)
 all_goals
  have HM9 := hid hmk
  have HL9 := hid (HL3.out.trans hlc)
  clear hmk hlc
  obtain ⟨g0, g1, g2, _, _, _⟩ := box_cells3 (H7.out.later HL9.out).1
  have hb6 := (H62.out.later HL9.out).1
  have HB6 := hid hb6
  obtain ⟨d0, d1, d2, y0, y1, y2⟩ := box_cells3 hb6
  clear hb6
  go_wp2_with fail
  clear d0 d1 d2 y0 y1 y2
  have hf := put3_fr wx (B + 1) (.int .i64 1) (.int .i64 mk.next) (.slice oo 0 cc)
  obtain ⟨f0, f1, f2⟩ := put3_cells (a := .int .i64 1) (b := .int .i64 mk.next) (c := .slice oo 0 cc) HB6.out
  change bodyPost _ _ _ _ _ (put3 wx (B + 1) (.int .i64 1) (.int .i64 mk.next) (.slice oo 0 cc))
  generalize put3 wx (B + 1) (.int .i64 1) (.int .i64 mk.next) (.slice oo 0 cc) = wf at *
  refine bodyPost_ret (by simp [results, Tryz.results42, go_sem, f0, f1, f2]; rfl) rfl ?_
  have hp : pb < W.heap.size := by rw [hBB]; exact HP.out
  refine ⟨mk.next, oo, cc, by rw [HRES.out], rfl, ?_, (HL2.out.trans HL9.out).put hf hp (fun i hi => by omega)⟩
  rw [HRES.out]
  exact (HM9.out.put (hf.mono (fun i _ e => by rw [HX1.out]; exact Or.inr (by omega)))).less (fun i hi => by rw [HX1.out]; exact Or.inl hi)
theorem term_rec (h : Nd) (ps : To) (ih : ∀ i g qs, ps.get i = some (g, qs) -> TmT g qs) (hk : h.k = 7) : TmN h ps := by
 intro W R X most pb mk o1 l1 c1 o2 l2 c2 eo en ec e E hs1 hs2 hR hm hmost hb hec hz hE hok hokl hfr hN hmany
 obtain ⟨W0, hW0⟩ : ∃ W0, W0 = (W.alloc (.cells (cells9 h o1 l1 c1 o2 l2 c2) 29)).alloc (.cells #[.int .i64 0, .int .i64 0, .slice none 0 0] 24) := ⟨_, rfl⟩
 have hq0 : Quiet0 W W0 := by rw [hW0]; exact (Quiet0.alloc _ _).trans (Quiet0.alloc _ _)
 have hz0 : W0.heap.size = W.heap.size + 2 := by rw [hW0]; simp
 have h4 : Bx pb W0 W.heap.size (cells9 h o1 l1 c1 o2 l2 c2) 29 := Bx.new hm hq0 (Nat.le_refl _) (by rw [hW0]; exact blk_after (Quiet0.alloc _ _) (heap_alloc_new W _))
 have h6 : Bx pb W0 (W.heap.size + 1) #[.int .i64 0, .int .i64 0, .slice none 0 0] 24 := Bx.new hm hq0 (by omega) (by
  rw [hW0]
  have := heap_alloc_new (W.alloc (.cells (cells9 h o1 l1 c1 o2 l2 c2) 29)) (.cells #[.int .i64 0, .int .i64 0, .slice none 0 0] 24)
  simpa using this)
 have hm0 := hm.more hq0 (fun i => i = W.heap.size + 1) (fun i hi => by subst hi; omega)
 have hp := hm.lt
 have hl0 := Later.of_quiet hq0 hp
 have hnx := (termM_nm most h ps E hE.ne mk).1
 have hnb : mk.next <= 500000000 := Nat.le_trans hnx hN
 have HTK := hid (take_any hm0 (by omega))
 have HM := hid hm
 have HL0 := hid hl0
 have H4 := hid h4
 have H6 := hid h6
 have HP := hid hp
 have HS2 := hid hs2
 have HR := hid hR
 have HBF := hid hb
 have HE := hid hE
 have HOK := hid hok
 have HOKL := hid hokl
 have HFR := hid hfr
 have HNB : Hid ((termM most h ps E mk).2.next <= NBd) := hN
 have HMO := hid hmost
 have HK := hid hk
 have HGO := hid (term_go most h ps E mk hmany)
 have HM0P := hid hm0.lt
 have t2 : (h.k == 2) = false := by rw [hk]; rfl
 have t3 : (h.k == 3) = false := by rw [hk]; rfl
 have t1 : (h.k == 1) = false := by rw [hk]; rfl
 have t4 : (h.k == 4) = false := by rw [hk]; rfl
 have t6 : (h.k == 6) = false := by rw [hk]; rfl
 have t7 : (h.k == 7) = true := by rw [hk]; rfl
 obtain ⟨X1, hX1⟩ : ∃ X1, X1 = (fun i => X i ∨ i = W.heap.size + 1) := ⟨_, rfl⟩
 have HX1 : Hid (∀ i, X1 i = (X i ∨ i = W.heap.size + 1)) := fun i => by rw [hX1]
 rw [<- hX1] at HTK
 clear hs1 hs2 hR hm hb hE hok hokl hfr hN hm0 hl0 hq0 h4 h6 hX1 hnx hk hp hz0 hmost
 have IH := hid ih
 clear ih
 have hl2 : 2 <= l2 := by rw [HS2.out.1]; exact HOK.out.2.2.2.2.1 HK.out
 have hi1 : (1 : Int) < l2 := by omega
 have hj1 : 1 < l2 := by omega
 obtain ⟨b9, off9, u, qu, p1u, m1u, d1u, p2u, m2u, d2u, e9, _, gu, ru, cu, su, tu⟩ := HS2.out.nth (i := 1) (by omega)
 subst e9
 have hb9 := HR.out b9 ru
 have HGU := hid gu
 have HSU := hid su
 have HTU := hid tu
 have HZU := hid (To.size_get ps 1 u qu gu)
 have HOU := hid (okTL_get ps 1 u qu HOKL.out gu)
 have HFU : Hid (Sc.free1 (h.nm :: names e) u qu = []) := by
  show _ = _
  have k := free_of HFR.out (by rw [HK.out]; decide) gu
  rwa [envOf_more _ _ (by rw [HK.out]; rfl)] at k
 obtain ⟨fm, hfm⟩ : ∃ fm, firstM most h (valsM most ps) E { mk with next := mk.next + 1 } = fm := ⟨_, rfl⟩
 obtain ⟨km, hkm⟩ : ∃ km, keptM most h (valsM most ps) E { mk with next := mk.next + 1 } = km := ⟨_, rfl⟩
 obtain ⟨res, hres⟩ : ∃ res, termM most u qu ((h.nm, km) :: E) fm.2 = res := ⟨_, rfl⟩
 obtain ⟨fin, hfin⟩ : ∃ fin, (eqP most (tv mk.next) res.1 h.fr h.en res.2).2 = fin := ⟨_, rfl⟩
 have HRES : Hid (termM most h ps E mk = (tv mk.next, fin)) := by show _ = _; rw [HGO.out, body_let (by rw [HK.out]; decide), vat_get HGU.out, hkm, hfm, hres, hfin]
 have HKN : Hid (NM km) := by show NM km; rw [<- hkm]; exact copied_nm _ _ _ _ _
 have HRN : Hid (res.2.next <= NBd) := by
  show _ <= _
  have k := HNB.out
  rw [HRES.out, <- hfin] at k
  simpa only [eqP_nx] using k
 have HFN : Hid (fm.2.next <= NBd) := by
  show _ <= _
  have k := (termM_nm most u qu ((h.nm, km) :: E) (HE.out.ne.cons HKN.out) fm.2).1
  rw [hres] at k
  exact Nat.le_trans k HRN.out
 have HFL : Hid (mk.next <= fm.2.next) := by
  show _ <= _
  have k := (firstM_nm most h ps HE.out.ne { mk with next := mk.next + 1 }).1
  rw [hfm] at k
  exact Nat.le_trans (Nat.le_succ _) k
 have HFM := hid hfm
 have HKM := hid hkm
 have HEQR := hid hres
 have HFIN := hid hfin
 clear hres hfin hfm hkm gu su tu
 unfold MkQ
 unfold tmv
 go_enter Tryz.func42, Tryz.ntmps42
 generalize hBB : W.heap.size = B at *
 go_upto_region 1 with fail
 rw [<- hW0]
 clear hW0
 go_wp2_with fail
 refine HTK.out.mono ?_; rintro x w1 ⟨n0, oo, cc, hn0, rfl, hm1, hl1⟩
 obtain rfl : mk.next = n0 := tv_inj hn0
 obtain ⟨W2, hW2⟩ : ∃ W2, W2 = w1.alloc (.cells #[.int .i64 1, .int .i64 mk.next, .slice oo 0 cc] 24) := ⟨_, rfl⟩
 have hq2 : Quiet0 w1 W2 := by rw [hW2]; exact Quiet0.alloc _ _
 have h7 : Bx pb W2 w1.heap.size #[.int .i64 1, .int .i64 mk.next, .slice oo 0 cc] 24 := Bx.new hm1 hq2 (Nat.le_refl _) (by rw [hW2]; exact heap_alloc_new w1 _)
 have H7 := hid h7
 have hm2 := hm1.stay hq2
 replace hm2 : MkE X1 most pb W2 { mk with next := mk.next + 1 } := hm2
 have hl2 := hl1.quiet hq2 HM0P.out
 have HM2 := hid hm2
 have HL2 := hid (HL0.out.trans hl2)
 have H42 := hid (H4.out.later hl2)
 have H62 := hid (H6.out.later hl2)
 clear hm1 hl1 hq2 h7 hm2 hl2 hn0 H4 H6 HL0 HTK
 unfold tyv
 go_upto_region 2 with fail
 change Code.wp _ _ _ _ (w1.alloc (.cells #[.int .i64 1, .int .i64 mk.next, .slice oo 0 cc] 24))
 rw [<- hW2]
 clear hW2
 generalize hC : w1.heap.size = C at *
 obtain ⟨ko, kc, kxs, hmka⟩ := HM2.out
 obtain ⟨_, _, _, q3⟩ := mk_cells hmka.box
 replace q3 : W2.cell? ⟨pb, 3, none⟩ = some (.bool false) := by rw [<- hmany]; exact q3
 obtain ⟨a0, a1, a2, a3, a4, a5, a6, a7, a8⟩ := cells9_block H42.out.1
 obtain ⟨b0, b1, b2, _, _, _⟩ := box_cells3 H7.out.1
 clear hmka
 have HBD : Hid (Calls Tryz.prog 70 #[.pointer (some ⟨pb, 0, none⟩), tmv h o1 l1 c1 (some ⟨b9, off9, none⟩) l2 c2, .slice eo en ec] W2 (BindQ X1 most pb W2 fm km)) := by
  have k := bind_rec h ps IH.out HK.out W2 R X1 most pb { mk with next := mk.next + 1 } o1 l1 c1 (some ⟨b9, off9, none⟩) l2 c2 eo en ec e E (tslc_later HS2.out HR.out HM.out HL2.out) HR.out HM2.out HMO.out (HBF.out.later HL2.out) hec hz (HE.out.later HL2.out (Nat.le_succ _)) HOK.out HOKL.out HFR.out (by rw [HFM.out]; exact HFN.out)
  rw [HFM.out, HKM.out] at k
  exact k
 unfold tmv at HBD
 go_wp2_with fail
 refine HBD.out.mono ?_; rintro x w3 ⟨bs, ls, rfl, hme, hm3, hl3⟩
 have HM3 := hid hm3
 have HL3 := hid hl3
 have HME := hid hme
 have hpb := hm3.lt
 clear hm3 hl3 hme a0 a1 a2 a3 a4 a5 a6 a7 a8 b0 b1 b2 q3
 have HSS : Hid (∀ W, Later pb w3 W -> (W.cell? ⟨B, 0, none⟩ = some (.int .i64 h.k) /\ W.cell? ⟨B, 1, none⟩ = some (.string h.nm) /\ W.cell? ⟨B, 2, none⟩ = some (.int .i64 h.n) /\ W.cell? ⟨B, 3, none⟩ = some (.int .i64 h.tk) /\ W.cell? ⟨B, 4, none⟩ = some (.int .i64 h.tn) /\ W.cell? ⟨B, 5, none⟩ = some (.slice o1 l1 c1) /\ W.cell? ⟨B, 6, none⟩ = some (.slice (some ⟨b9, off9, none⟩) l2 c2) /\ W.cell? ⟨B, 7, none⟩ = some (.int .i64 h.fr) /\ W.cell? ⟨B, 8, none⟩ = some (.int .i64 h.en)) /\ (W.cell? ⟨C, 0, none⟩ = some (.int .i64 1) /\ W.cell? ⟨C, 1, none⟩ = some (.int .i64 mk.next) /\ W.cell? ⟨C, 2, none⟩ = some (.slice oo 0 cc)) /\ (W.cell? ⟨b9, off9 + 9, none⟩ = some (.int .i64 u.k) /\ W.cell? ⟨b9, off9 + 9 + 1, none⟩ = some (.string u.nm) /\ W.cell? ⟨b9, off9 + 9 + 2, none⟩ = some (.int .i64 u.n) /\ W.cell? ⟨b9, off9 + 9 + 3, none⟩ = some (.int .i64 u.tk) /\ W.cell? ⟨b9, off9 + 9 + 4, none⟩ = some (.int .i64 u.tn) /\ W.cell? ⟨b9, off9 + 9 + 5, none⟩ = some (.slice p1u m1u d1u) /\ W.cell? ⟨b9, off9 + 9 + 6, none⟩ = some (.slice p2u m2u d2u) /\ W.cell? ⟨b9, off9 + 9 + 7, none⟩ = some (.int .i64 u.fr) /\ W.cell? ⟨b9, off9 + 9 + 8, none⟩ = some (.int .i64 u.en))) := fun W' hl => by
  have hl' := HL3.out.trans hl
  obtain ⟨k0, k1, k2, _⟩ := box_cells3 (H7.out.later hl').1
  exact ⟨cells9_block (H42.out.later hl').1, ⟨k0, k1, k2⟩, cells_later cu hb9 HM.out (HL2.out.trans hl')⟩
 have HWT : Hid (∀ W, Later pb w3 W -> MkE X1 most pb W fm.2 -> Calls Tryz.prog 68 #[.slice eo en ec, .string h.nm, .func bs #[] ls] W (WtQ most pb fm.2.next W (en + 1) ((h.nm, .func bs #[] ls) :: e) ((h.nm, km) :: E))) := fun W hl hm => by
  have hl' := HL2.out.trans (HL3.out.trans hl)
  exact with2_any h.nm hm (HBF.out.later hl') (HE.out.later hl' HFL.out) hec (by omega) (HME.out.later hl (Nat.le_refl _)) HKN.out
 have HTM : Hid (∀ W o c, Later pb w3 W -> MkE X1 most pb W fm.2 -> en + 1 <= c -> PkE most pb fm.2.next W o (en + 1) ((h.nm, .func bs #[] ls) :: e) ((h.nm, km) :: E) -> Calls Tryz.prog 42 #[.pointer (some ⟨pb, 0, none⟩), tmv u p1u m1u d1u p2u m2u d2u, .slice o (en + 1) c] W (MkQ X1 most pb W res)) := fun W o c hl hm hc hpk => by
  have hl' := HL2.out.trans (HL3.out.trans hl)
  have k := IH.out 1 u qu HGU.out W R X1 most pb fm.2 p1u m1u d1u p2u m2u d2u o (en + 1) c _ _ (slcin_later HSU.out HR.out HM.out hl') (tslc_later HTU.out HR.out HM.out hl') HR.out hm HMO.out hpk.1 hc (by have := HZU.out; omega) hpk.2 HOU.out.1 HOU.out.2 HFU.out (by rw [HEQR.out]; exact HRN.out)
  rw [HEQR.out] at k
  exact k
 have HEQ : Hid (∀ (W : World) (n9 : Nat) (o9 : Option Addr) (c9 : Nat), res.1 = tv n9 -> MkE X1 most pb W res.2 -> Calls Tryz.prog 66 #[.pointer (some ⟨pb, 0, none⟩), .agg #[.int .i64 1, .int .i64 mk.next, .slice oo 0 cc], .agg #[.int .i64 1, .int .i64 n9, .slice o9 0 c9], .agg #[.int .i64 h.fr, .int .i64 h.en]] W (MkU X1 most pb W fin)) := fun W n9 o9 c9 hr hmw => by
  have k := equate_any (o1 := oo) (l1 := 0) (c1 := cc) (o2 := o9) (l2 := 0) (c2 := c9) hmw HMO.out (tv mk.next) (tv n9) h.fr h.en (SlcIn.nil _ _ _) (SlcIn.nil _ _ _) (Nat.le_of_ble_eq_true rfl) (Nat.le_of_ble_eq_true rfl)
  rw [<- hr, HFIN.out] at k
  rw [hr] at k
  exact k
 have hmk := HM3.out
 have hlc := Later.refl hpb
 obtain ⟨⟨a0, a1, a2, a3, a4, a5, a6, a7, a8⟩, ⟨b0, b1, b2⟩, ⟨v0, v1, v2, v3, v4, v5, v6, v7, v8⟩⟩ := HSS.out w3 (Later.refl hpb)
 unfold tmv at HTM
 clear cu hb9 ru
 go_upto_region 17 with fail
 go_region_held3 (fun W => (W.cell? ⟨B, 0, none⟩ = some (.int .i64 h.k) /\ W.cell? ⟨B, 1, none⟩ = some (.string h.nm) /\ W.cell? ⟨B, 2, none⟩ = some (.int .i64 h.n) /\ W.cell? ⟨B, 3, none⟩ = some (.int .i64 h.tk) /\ W.cell? ⟨B, 4, none⟩ = some (.int .i64 h.tn) /\ W.cell? ⟨B, 5, none⟩ = some (.slice o1 l1 c1) /\ W.cell? ⟨B, 6, none⟩ = some (.slice (some ⟨b9, off9, none⟩) l2 c2) /\ W.cell? ⟨B, 7, none⟩ = some (.int .i64 h.fr) /\ W.cell? ⟨B, 8, none⟩ = some (.int .i64 h.en)) /\ (W.cell? ⟨C, 0, none⟩ = some (.int .i64 1) /\ W.cell? ⟨C, 1, none⟩ = some (.int .i64 mk.next) /\ W.cell? ⟨C, 2, none⟩ = some (.slice oo 0 cc)) /\ (W.cell? ⟨b9, off9 + 9, none⟩ = some (.int .i64 u.k) /\ W.cell? ⟨b9, off9 + 9 + 1, none⟩ = some (.string u.nm) /\ W.cell? ⟨b9, off9 + 9 + 2, none⟩ = some (.int .i64 u.n) /\ W.cell? ⟨b9, off9 + 9 + 3, none⟩ = some (.int .i64 u.tk) /\ W.cell? ⟨b9, off9 + 9 + 4, none⟩ = some (.int .i64 u.tn) /\ W.cell? ⟨b9, off9 + 9 + 5, none⟩ = some (.slice p1u m1u d1u) /\ W.cell? ⟨b9, off9 + 9 + 6, none⟩ = some (.slice p2u m2u d2u) /\ W.cell? ⟨b9, off9 + 9 + 7, none⟩ = some (.int .i64 u.fr) /\ W.cell? ⟨b9, off9 + 9 + 8, none⟩ = some (.int .i64 u.en)))
  (((refine HSS.out _ ?_); (repeat with_reducible first | exact hlc | exact Later.refl hpb | refine jm hpb ?_ | refine jo hpb ?_)))
  (first
   | (go_at_call 68; (with_reducible refine Calls.mono (HWT.out _ ?hq ?hm) ?_); (case hq => (repeat with_reducible first | exact hlc | exact Later.refl hpb | refine jm hpb ?_ | refine jo hpb ?_)); (case hm => (repeat with_reducible first | exact hmk | refine ja ?_ | refine jb ?_)); rintro e wx ⟨wo, wc, rfl, hwc, hpk, hqx⟩; (refine with_ml (pb := pb) (X := X1) (most := most) (k := fm.2) (w0 := w3) ?hl2 ?hm2 hqx ?_); (case hl2 => (repeat with_reducible first | exact hlc | exact Later.refl hpb | refine jm hpb ?_ | refine jo hpb ?_)); (case hm2 => (repeat with_reducible first | exact hmk | refine ja ?_ | refine jb ?_)); intro hlc hmk)
   | ((go_at_call 42; (with_reducible refine Calls.mono (HTM.out _ _ _ ?hq ?hm hwc ?hpz) ?_)); (case hq => (repeat with_reducible first | exact hlc | exact Later.refl hpb | refine jm hpb ?_ | refine jo hpb ?_)); (case hm => (repeat with_reducible first | exact hmk | refine ja ?_ | refine jb ?_)); (case hpz => (repeat (first | with_reducible exact hpk | ((with_reducible refine PkE.st (X := X1) (k := fm.2) ?hmP (Quiet0.alloc _ _) ?_); (case hmP => (repeat with_reducible first | exact hmk | refine ja ?_ | refine jb ?_))) | ((with_reducible refine PkE.st (X := X1) (k := fm.2) ?hmP (Quiet0.drew _) ?_); (case hmP => (repeat with_reducible first | exact hmk | refine ja ?_ | refine jb ?_))) | fail))); rintro e wx ⟨n9, o9, c9, hr9, rfl, hmk, hlx⟩; unfold tyv; (refine with_lt (pb := pb) (w0 := w3) ?hl2 hlx ?_); (case hl2 => (repeat with_reducible first | exact hlc | exact Later.refl hpb | refine jm hpb ?_ | refine jo hpb ?_)); intro hlc)
   | ((go_at_call 66; (with_reducible refine Calls.mono (HEQ.out _ n9 _ _ hr9 ?hm) ?_)); (case hm => (repeat with_reducible first | exact hmk | refine ja ?_ | refine jb ?_)); rintro e wx ⟨rfl, hmk, hlx⟩; (refine with_lt (pb := pb) (w0 := w3) ?hl2 hlx ?_); (case hl2 => (repeat with_reducible first | exact hlc | exact Later.refl hpb | refine jm hpb ?_ | refine jo hpb ?_)); intro hlc)
   | fail)
 all_goals
  have HM9 := hid hmk
  have HL9 := hid (HL3.out.trans hlc)
  clear hmk hlc
  obtain ⟨g0, g1, g2, _, _, _⟩ := box_cells3 (H7.out.later HL9.out).1
  have hb6 := (H62.out.later HL9.out).1
  have HB6 := hid hb6
  obtain ⟨d0, d1, d2, y0, y1, y2⟩ := box_cells3 hb6
  clear hb6
  go_wp2_with fail
  clear d0 d1 d2 y0 y1 y2
  have hf := put3_fr wx (B + 1) (.int .i64 1) (.int .i64 mk.next) (.slice oo 0 cc)
  obtain ⟨f0, f1, f2⟩ := put3_cells (a := .int .i64 1) (b := .int .i64 mk.next) (c := .slice oo 0 cc) HB6.out
  change bodyPost _ _ _ _ _ (put3 wx (B + 1) (.int .i64 1) (.int .i64 mk.next) (.slice oo 0 cc))
  generalize put3 wx (B + 1) (.int .i64 1) (.int .i64 mk.next) (.slice oo 0 cc) = wf at *
  refine bodyPost_ret (by simp [results, Tryz.results42, go_sem, f0, f1, f2]; rfl) rfl ?_
  have hp : pb < W.heap.size := by rw [hBB]; exact HP.out
  refine ⟨mk.next, oo, cc, by rw [HRES.out], rfl, ?_, (HL2.out.trans HL9.out).put hf hp (fun i hi => by omega)⟩
  rw [HRES.out]
  exact (HM9.out.put (hf.mono (fun i _ e => by rw [HX1.out]; exact Or.inr (by omega)))).less (fun i hi => by rw [HX1.out]; exact Or.inl hi)
end Em
end
section
open Go.RowKit
namespace Em
theorem term_if (h : Nd) (ps : To) (ih : ∀ i g qs, ps.get i = some (g, qs) -> TmT g qs) (hk : h.k = 8) : TmN h ps := by
 intro W R X most pb mk o1 l1 c1 o2 l2 c2 eo en ec e E hs1 hs2 hR hm hmost hb hec hz hE hok hokl hfr hN hmany
 obtain ⟨W0, hW0⟩ : ∃ W0, W0 = (W.alloc (.cells (cells9 h o1 l1 c1 o2 l2 c2) 29)).alloc (.cells #[.int .i64 0, .int .i64 0, .slice none 0 0] 24) := ⟨_, rfl⟩
 have hq0 : Quiet0 W W0 := by rw [hW0]; exact (Quiet0.alloc _ _).trans (Quiet0.alloc _ _)
 have hz0 : W0.heap.size = W.heap.size + 2 := by rw [hW0]; simp
 have h4 : Bx pb W0 W.heap.size (cells9 h o1 l1 c1 o2 l2 c2) 29 := Bx.new hm hq0 (Nat.le_refl _) (by rw [hW0]; exact blk_after (Quiet0.alloc _ _) (heap_alloc_new W _))
 have h6 : Bx pb W0 (W.heap.size + 1) #[.int .i64 0, .int .i64 0, .slice none 0 0] 24 := Bx.new hm hq0 (by omega) (by
  rw [hW0]
  have := heap_alloc_new (W.alloc (.cells (cells9 h o1 l1 c1 o2 l2 c2) 29)) (.cells #[.int .i64 0, .int .i64 0, .slice none 0 0] 24)
  simpa using this)
 have hm0 := hm.more hq0 (fun i => i = W.heap.size + 1) (fun i hi => by subst hi; omega)
 have hp := hm.lt
 have hl0 := Later.of_quiet hq0 hp
 have hnx := (termM_nm most h ps E hE.ne mk).1
 have hnb : mk.next <= 500000000 := Nat.le_trans hnx hN
 have HTK := hid (take_any hm0 (by omega))
 have HM := hid hm
 have HL0 := hid hl0
 have H4 := hid h4
 have H6 := hid h6
 have HP := hid hp
 have HS2 := hid hs2
 have HR := hid hR
 have HBF := hid hb
 have HE := hid hE
 have HOK := hid hok
 have HOKL := hid hokl
 have HFR := hid hfr
 have HNB : Hid ((termM most h ps E mk).2.next <= NBd) := hN
 have HMO := hid hmost
 have HK := hid hk
 have HGO := hid (term_go most h ps E mk hmany)
 have HM0P := hid hm0.lt
 have t2 : (h.k == 2) = false := by rw [hk]; rfl
 have t3 : (h.k == 3) = false := by rw [hk]; rfl
 have t1 : (h.k == 1) = false := by rw [hk]; rfl
 have t4 : (h.k == 4) = false := by rw [hk]; rfl
 have t6 : (h.k == 6) = false := by rw [hk]; rfl
 have t7 : (h.k == 7) = false := by rw [hk]; rfl
 have t5 : (h.k == 5) = false := by rw [hk]; rfl
 have t8 : (h.k == 8) = true := by rw [hk]; rfl
 obtain ⟨X1, hX1⟩ : ∃ X1, X1 = (fun i => X i ∨ i = W.heap.size + 1) := ⟨_, rfl⟩
 have HX1 : Hid (∀ i, X1 i = (X i ∨ i = W.heap.size + 1)) := fun i => by rw [hX1]
 rw [<- hX1] at HTK
 clear hs1 hs2 hR hm hb hE hok hokl hfr hN hm0 hl0 hq0 h4 h6 hX1 hnx hk hp hz0 hmost
 have HFP : Hid (∀ j g qs, ps.get j = some (g, qs) -> Sc.free1 (names e) g qs = []) := fun j g qs hg => by
  have k := free_of HFR.out (by rw [HK.out]; decide) hg
  rwa [envOf_same _ _ (by rw [HK.out]; exact not_binds (by decide) (by decide) (by decide) j)] at k
 have IH := hid ih
 clear ih
 obtain ⟨res, hres⟩ : ∃ res, mapE E (valsM most ps) { mk with next := mk.next + 1 } = res := ⟨_, rfl⟩
 obtain ⟨fin, hfin⟩ : ∃ fin, (eqP most (tv mk.next) (tat res.1 2) (spanAt ps 2).1 (spanAt ps 2).2 (eqP most (tv mk.next) (tat res.1 1) (spanAt ps 1).1 (spanAt ps 1).2 (eqP most (tat res.1 0) (3, 0, .nil) (spanAt ps 0).1 (spanAt ps 0).2 res.2).2).2).2 = fin := ⟨_, rfl⟩
 have HRES : Hid (termM most h ps E mk = (tv mk.next, fin)) := by show _ = _; rw [HGO.out, body_if HK.out, hres, hfin]
 have HRL : Hid (res.1.length = l2) := by show _ = _; rw [<- hres, mapE_length, valsM_length, HS2.out.1]
 have HRN : Hid (res.2.next <= NBd) := by
  show _ <= _
  have k := HNB.out
  rw [HRES.out] at k
  rw [<- hfin] at k
  simpa only [eqP_nx] using k
 have HEQR := hid hres
 have HFIN := hid hfin
 have hl2 : 3 <= l2 := by rw [HS2.out.1]; exact HOK.out.2.2.2.2.2.1 HK.out
 have hi0 : (0 : Int) < l2 := by omega
 have hj0 : 0 < l2 := by omega
 have hj1 : 2 <= l2 -> 1 < l2 := by omega
 have hj2 : 3 <= l2 -> 2 < l2 := by omega
 have hi1 : 2 <= l2 -> (1 : Int) < l2 := by omega
 have hi2 : 3 <= l2 -> (2 : Int) < l2 := by omega
 have hlz : l2 <= 100000 := by have := To.length_le ps; have := HS2.out.1; omega
 clear hres hfin
 unfold MkQ
 unfold tmv
 go_enter Tryz.func42, Tryz.ntmps42
 generalize hBB : W.heap.size = B at *
 go_upto_region 1 with fail
 rw [<- hW0]
 clear hW0
 go_wp2_with fail
 refine HTK.out.mono ?_; rintro x w1 ⟨n0, oo, cc, hn0, rfl, hm1, hl1⟩
 obtain rfl : mk.next = n0 := tv_inj hn0
 obtain ⟨W2, hW2⟩ : ∃ W2, W2 = w1.alloc (.cells #[.int .i64 1, .int .i64 mk.next, .slice oo 0 cc] 24) := ⟨_, rfl⟩
 have hq2 : Quiet0 w1 W2 := by rw [hW2]; exact Quiet0.alloc _ _
 have h7 : Bx pb W2 w1.heap.size #[.int .i64 1, .int .i64 mk.next, .slice oo 0 cc] 24 := Bx.new hm1 hq2 (Nat.le_refl _) (by rw [hW2]; exact heap_alloc_new w1 _)
 have H7 := hid h7
 have hm2 := hm1.stay hq2
 replace hm2 : MkE X1 most pb W2 { mk with next := mk.next + 1 } := hm2
 have hl2 := hl1.quiet hq2 HM0P.out
 have HM2 := hid hm2
 have HL2 := hid (HL0.out.trans hl2)
 have H42 := hid (H4.out.later hl2)
 have H62 := hid (H6.out.later hl2)
 have HP2 := hid hm2.lt
 clear hm1 hl1 hq2 h7 hm2 hl2 hn0 H4 H6 HL0 HTK
 unfold tyv
 go_upto_region 2 with fail
 change Code.wp _ _ _ _ (w1.alloc (.cells #[.int .i64 1, .int .i64 mk.next, .slice oo 0 cc] 24))
 rw [<- hW2]
 clear hW2
 generalize hC : w1.heap.size = C at *
 obtain ⟨ko, kc, kxs, hmka⟩ := HM2.out
 obtain ⟨_, _, _, q3⟩ := mk_cells hmka.box
 replace q3 : W2.cell? ⟨pb, 3, none⟩ = some (.bool false) := by rw [<- hmany]; exact q3
 obtain ⟨a0, a1, a2, a3, a4, a5, a6, a7, a8⟩ := cells9_block H42.out.1
 obtain ⟨b0, b1, b2, _, _, _⟩ := box_cells3 H7.out.1
 clear hmka
 have HPT : Hid (∀ W, Later pb W2 W -> MkE X1 most pb W { mk with next := mk.next + 1 } -> Calls Tryz.prog 71 #[.pointer (some ⟨pb, 0, none⟩), tmv h o1 l1 c1 o2 l2 c2, .slice eo en ec] W (PtQ X1 most pb W res)) := fun W' hl hmw => by
  have hl' := HL2.out.trans hl
  have k := parts_any h ps IH.out W' R X1 most pb { mk with next := mk.next + 1 } o1 l1 c1 o2 l2 c2 eo en ec e E (tslc_later HS2.out HR.out HM.out hl') HR.out hmw HMO.out (HBF.out.later hl') hec hz (HE.out.later hl' (Nat.le_succ _)) HOKL.out HFP.out (by rw [HEQR.out]; exact HRN.out)
  rw [HEQR.out] at k
  exact k
 unfold tmv at HPT
 obtain ⟨b9, off9, u, qu, p1u, m1u, d1u, p2u, m2u, d2u, e9, _, gu, ru, cu, _, tu⟩ := HS2.out.nth (i := 0) (by omega)
 subst e9
 have hb9 := HR.out b9 ru
 have hsp : spanAt ps 0 = (u.fr, u.en) := by unfold spanAt; rw [gu]
 obtain ⟨b9', off9', u1, qu1, p1u1, m1u1, d1u1, p2u1, m2u1, d2u1, e9, _, gu1, _, cu1, _, _⟩ := HS2.out.nth (i := 1) (by omega)
 obtain ⟨rfl, rfl⟩ : b9 = b9' /\ off9 = off9' := by cases e9; exact ⟨rfl, rfl⟩
 obtain ⟨b9', off9', u2, qu2, p1u2, m1u2, d1u2, p2u2, m2u2, d2u2, e9', _, gu2, _, cu2, _, _⟩ := HS2.out.nth (i := 2) (by omega)
 obtain ⟨rfl, rfl⟩ : b9 = b9' /\ off9 = off9' := by cases e9'; exact ⟨rfl, rfl⟩
 have hsp1 : spanAt ps 1 = (u1.fr, u1.en) := by unfold spanAt; rw [gu1]
 have hsp2 : spanAt ps 2 = (u2.fr, u2.en) := by unfold spanAt; rw [gu2]
 go_wp2_with fail
 refine (HPT.out _ (Later.refl HP2.out) HM2.out).mono ?_; rintro x w3 ⟨o, c, rfl, hcl, hpt, hm3, hl3⟩
 clear a0 a1 a2 a3 a4 a5 a6 a7 a8 b0 b1 b2 q3
 obtain ⟨gp, n0, n0o, n0c, rfl, n0t, n00, n01, n02⟩ := hpt.get (i := 0) (by rw [HRL.out]; omega)
 obtain ⟨gp1, n1, n1o, n1c, e1, n1t, n10, n11, n12⟩ := hpt.get (i := 1) (by rw [HRL.out]; omega)
 obtain rfl : gp = gp1 := by cases e1; rfl
 obtain ⟨gp2, n2, n2o, n2c, e2, n2t, n20, n21, n22⟩ := hpt.get (i := 2) (by rw [HRL.out]; omega)
 obtain rfl : gp = gp2 := by cases e2; rfl
 have hgt := hpt.tf rfl (by rw [HRL.out]; omega)
 rw [HRL.out]
 have HM3 := hid hm3
 have HL3 := hid hl3
 obtain ⟨mka, hmka⟩ : ∃ mka, (eqP most (tv n0) (3, 0, .nil) u.fr u.en res.2).2 = mka := ⟨_, rfl⟩
 obtain ⟨mkb, hmkb⟩ : ∃ mkb, (eqP most (tv mk.next) (tv n1) u1.fr u1.en mka).2 = mkb := ⟨_, rfl⟩
 have HFIN2 : Hid ((eqP most (tv mk.next) (tv n2) u2.fr u2.en mkb).2 = fin) := by show _ = _; rw [<- hmkb, <- hmka, <- HFIN.out, hsp, hsp1, hsp2, n0t, n1t, n2t]
 have HA := hid hmka
 have HB := hid hmkb
 have HSS : Hid (∀ W, Later pb w3 W -> (W.cell? ⟨B, 0, none⟩ = some (.int .i64 h.k) /\ W.cell? ⟨B, 1, none⟩ = some (.string h.nm) /\ W.cell? ⟨B, 2, none⟩ = some (.int .i64 h.n) /\ W.cell? ⟨B, 3, none⟩ = some (.int .i64 h.tk) /\ W.cell? ⟨B, 4, none⟩ = some (.int .i64 h.tn) /\ W.cell? ⟨B, 5, none⟩ = some (.slice o1 l1 c1) /\ W.cell? ⟨B, 6, none⟩ = some (.slice (some ⟨b9, off9, none⟩) l2 c2) /\ W.cell? ⟨B, 7, none⟩ = some (.int .i64 h.fr) /\ W.cell? ⟨B, 8, none⟩ = some (.int .i64 h.en)) /\ (W.cell? ⟨C, 0, none⟩ = some (.int .i64 1) /\ W.cell? ⟨C, 1, none⟩ = some (.int .i64 mk.next) /\ W.cell? ⟨C, 2, none⟩ = some (.slice oo 0 cc)) /\ (W.cell? ⟨gp, 0, none⟩ = some (.int .i64 1) /\ W.cell? ⟨gp, 1, none⟩ = some (.int .i64 n0) /\ W.cell? ⟨gp, 2, none⟩ = some (.slice n0o 0 n0c)) /\ (W.cell? ⟨gp, 3, none⟩ = some (.int .i64 1) /\ W.cell? ⟨gp, 4, none⟩ = some (.int .i64 n1) /\ W.cell? ⟨gp, 5, none⟩ = some (.slice n1o 0 n1c)) /\ (W.cell? ⟨gp, 6, none⟩ = some (.int .i64 1) /\ W.cell? ⟨gp, 7, none⟩ = some (.int .i64 n2) /\ W.cell? ⟨gp, 8, none⟩ = some (.slice n2o 0 n2c)) /\ (W.cell? ⟨b9, off9 + 7, none⟩ = some (.int .i64 u.fr) /\ W.cell? ⟨b9, off9 + 8, none⟩ = some (.int .i64 u.en)) /\ (W.cell? ⟨b9, off9 + 16, none⟩ = some (.int .i64 u1.fr) /\ W.cell? ⟨b9, off9 + 17, none⟩ = some (.int .i64 u1.en)) /\ (W.cell? ⟨b9, off9 + 25, none⟩ = some (.int .i64 u2.fr) /\ W.cell? ⟨b9, off9 + 26, none⟩ = some (.int .i64 u2.en))) := fun W' hl => by
  have hl' := HL3.out.trans hl
  obtain ⟨k0, k1, k2, _⟩ := box_cells3 (H7.out.later hl').1
  obtain ⟨_, _, _, _, _, _, _, f7, f8⟩ := cells_later cu hb9 HM.out (HL2.out.trans hl')
  obtain ⟨_, _, _, _, _, _, _, f7', f8'⟩ := cells_later cu1 hb9 HM.out (HL2.out.trans hl')
  obtain ⟨_, _, _, _, _, _, _, f7'', f8''⟩ := cells_later cu2 hb9 HM.out (HL2.out.trans hl')
  exact ⟨cells9_block (H42.out.later hl').1, ⟨k0, k1, k2⟩, ⟨cell_later hgt hl n00, cell_later hgt hl n01, cell_later hgt hl n02⟩, ⟨cell_later hgt hl n10, cell_later hgt hl n11, cell_later hgt hl n12⟩, ⟨cell_later hgt hl n20, cell_later hgt hl n21, cell_later hgt hl n22⟩, ⟨f7, f8⟩, ⟨f7', f8'⟩, ⟨f7'', f8''⟩⟩
 have HEQ1 : Hid (∀ W, MkE X1 most pb W res.2 -> Calls Tryz.prog 66 #[.pointer (some ⟨pb, 0, none⟩), .agg #[.int .i64 1, .int .i64 n0, .slice n0o 0 n0c], .agg #[.int .i64 3, .int .i64 0, .slice none 0 0], .agg #[.int .i64 u.fr, .int .i64 u.en]] W (MkU X1 most pb W mka)) := fun W hmw => by
  have k := equate_any (o1 := n0o) (l1 := 0) (c1 := n0c) (o2 := none) (l2 := 0) (c2 := 0) hmw HMO.out (tv n0) (3, 0, .nil) u.fr u.en (SlcIn.nil _ _ _) (SlcIn.nil _ _ _) (Nat.le_of_ble_eq_true rfl) (Nat.le_of_ble_eq_true rfl)
  rw [HA.out] at k
  exact k
 have HEQ2 : Hid (∀ W, MkE X1 most pb W mka -> Calls Tryz.prog 66 #[.pointer (some ⟨pb, 0, none⟩), .agg #[.int .i64 1, .int .i64 mk.next, .slice oo 0 cc], .agg #[.int .i64 1, .int .i64 n1, .slice n1o 0 n1c], .agg #[.int .i64 u1.fr, .int .i64 u1.en]] W (MkU X1 most pb W mkb)) := fun W hmw => by
  have k := equate_any (o1 := oo) (l1 := 0) (c1 := cc) (o2 := n1o) (l2 := 0) (c2 := n1c) hmw HMO.out (tv mk.next) (tv n1) u1.fr u1.en (SlcIn.nil _ _ _) (SlcIn.nil _ _ _) (Nat.le_of_ble_eq_true rfl) (Nat.le_of_ble_eq_true rfl)
  rw [HB.out] at k
  exact k
 have HEQ3 : Hid (∀ W, MkE X1 most pb W mkb -> Calls Tryz.prog 66 #[.pointer (some ⟨pb, 0, none⟩), .agg #[.int .i64 1, .int .i64 mk.next, .slice oo 0 cc], .agg #[.int .i64 1, .int .i64 n2, .slice n2o 0 n2c], .agg #[.int .i64 u2.fr, .int .i64 u2.en]] W (MkU X1 most pb W fin)) := fun W hmw => by
  have k := equate_any (o1 := oo) (l1 := 0) (c1 := cc) (o2 := n2o) (l2 := 0) (c2 := n2c) hmw HMO.out (tv mk.next) (tv n2) u2.fr u2.en (SlcIn.nil _ _ _) (SlcIn.nil _ _ _) (Nat.le_of_ble_eq_true rfl) (Nat.le_of_ble_eq_true rfl)
  rw [HFIN2.out] at k
  exact k
 replace hi1 := hi1 (by omega)
 replace hi2 := hi2 hl2
 replace hj1 := hj1 (by omega)
 replace hj2 := hj2 hl2
 have hpb := hm3.lt
 obtain ⟨⟨a0, a1, a2, a3, a4, a5, a6, a7, a8⟩, ⟨b0, b1, b2⟩, ⟨p0, p1, p2⟩, ⟨p3, p4, p5⟩, ⟨p6, p7, p8⟩, ⟨f0, f1⟩, ⟨f2, f3⟩, ⟨f4, f5⟩⟩ := HSS.out w3 (Later.refl hpb)
 clear hpt hm3 hl3 hgt n0t n1t n2t hmka hmkb hsp hsp1 hsp2 hb9 cu cu1 cu2 tu gu gu1 gu2 ru n00 n01 n02 n10 n11 n12 n20 n21 n22
 go_upto_region 23 with fail
 refine wp_region_still_tail 10 (by kernel_rfl) (by kernel_rfl) ?_
 simp only [List.take_succ_cons, List.take_zero, List.drop_succ_cons, List.drop_zero]
 change wpStill _ _ (World.drew w3) _ _ _
 repeat still_step
 refine wpStill_nil ?_
 change wpList _ _ _ _ _ (World.drew w3)
 go_wp2_with fail
 refine (HEQ1.out _ (HM3.out.stay (Quiet0.drew _))).mono ?_; rintro x w4 ⟨rfl, hm4, hl4⟩
 have HM4 := hid hm4
 have HL4 := hid ((Later.of_quiet (Quiet0.drew w3) hpb).trans hl4)
 clear hm4 hl4
 clear a0 a1 a2 a3 a4 a5 a6 a7 a8 b0 b1 b2 p0 p1 p2 p3 p4 p5 p6 p7 p8 f0 f1 f2 f3 f4 f5
 obtain ⟨⟨a0, a1, a2, a3, a4, a5, a6, a7, a8⟩, ⟨b0, b1, b2⟩, ⟨p0, p1, p2⟩, ⟨p3, p4, p5⟩, ⟨p6, p7, p8⟩, ⟨f0, f1⟩, ⟨f2, f3⟩, ⟨f4, f5⟩⟩ := HSS.out w4 HL4.out
 go_upto_region 24 with fail
 refine wp_region_still_tail 10 (by kernel_rfl) (by kernel_rfl) ?_
 simp only [List.take_succ_cons, List.take_zero, List.drop_succ_cons, List.drop_zero]
 change wpStill _ _ (World.drew w4) _ _ _
 repeat still_step
 refine wpStill_nil ?_
 change wpList _ _ _ _ _ (World.drew w4)
 go_wp2_with fail
 refine (HEQ2.out _ (HM4.out.stay (Quiet0.drew _))).mono ?_; rintro x w5 ⟨rfl, hm5, hl5⟩
 have HM5 := hid hm5
 have HL5 := hid (HL4.out.trans ((Later.of_quiet (Quiet0.drew w4) HM4.out.lt).trans hl5))
 clear hm5 hl5
 clear a0 a1 a2 a3 a4 a5 a6 a7 a8 b0 b1 b2 p0 p1 p2 p3 p4 p5 p6 p7 p8 f0 f1 f2 f3 f4 f5
 obtain ⟨⟨a0, a1, a2, a3, a4, a5, a6, a7, a8⟩, ⟨b0, b1, b2⟩, ⟨p0, p1, p2⟩, ⟨p3, p4, p5⟩, ⟨p6, p7, p8⟩, ⟨f0, f1⟩, ⟨f2, f3⟩, ⟨f4, f5⟩⟩ := HSS.out w5 HL5.out
 go_upto_region 25 with fail
 refine wp_region_still_tail 10 (by kernel_rfl) (by kernel_rfl) ?_
 simp only [List.take_succ_cons, List.take_zero, List.drop_succ_cons, List.drop_zero]
 change wpStill _ _ (World.drew w5) _ _ _
 repeat still_step
 refine wpStill_nil ?_
 change wpList _ _ _ _ _ (World.drew w5)
 go_wp2_with fail
 refine (HEQ3.out _ (HM5.out.stay (Quiet0.drew _))).mono ?_; rintro x w6 ⟨rfl, hm6, hl6⟩
 have HM6 := hid hm6
 have HL6 := hid (HL3.out.trans (HL5.out.trans ((Later.of_quiet (Quiet0.drew w5) HM5.out.lt).trans hl6)))
 clear hm6 hl6 a0 a1 a2 a3 a4 a5 a6 a7 a8 b0 b1 b2 p0 p1 p2 p3 p4 p5 p6 p7 p8 f0 f1 f2 f3 f4 f5
 obtain ⟨g0, g1, g2, _, _, _⟩ := box_cells3 (H7.out.later HL6.out).1
 have hb6 := (H62.out.later HL6.out).1
 have HB6 := hid hb6
 obtain ⟨d0, d1, d2, y0, y1, y2⟩ := box_cells3 hb6
 clear hb6
 go_wp2_with fail
 clear d0 d1 d2 y0 y1 y2
 have hf := put3_fr w6 (B + 1) (.int .i64 1) (.int .i64 mk.next) (.slice oo 0 cc)
 obtain ⟨f0, f1, f2⟩ := put3_cells (a := .int .i64 1) (b := .int .i64 mk.next) (c := .slice oo 0 cc) HB6.out
 change bodyPost _ _ _ _ _ (put3 w6 (B + 1) (.int .i64 1) (.int .i64 mk.next) (.slice oo 0 cc))
 generalize put3 w6 (B + 1) (.int .i64 1) (.int .i64 mk.next) (.slice oo 0 cc) = wf at *
 refine bodyPost_ret (by simp [results, Tryz.results42, go_sem, f0, f1, f2]; rfl) rfl ?_
 have hp : pb < W.heap.size := by rw [hBB]; exact HP.out
 refine ⟨mk.next, oo, cc, by rw [HRES.out], rfl, ?_, (HL2.out.trans HL6.out).put hf hp (fun i hi => by omega)⟩
 rw [HRES.out]
 exact (HM6.out.put (hf.mono (fun i _ e => by rw [HX1.out]; exact Or.inr (by omega)))).less (fun i hi => by rw [HX1.out]; exact Or.inl hi)
end Em
end
section
open Go.RowKit
namespace Em
theorem term_tuple (h : Nd) (ps : To) (ih : ∀ i g qs, ps.get i = some (g, qs) -> TmT g qs) (hk : h.k = 9) : TmN h ps := by
 intro W R X most pb mk o1 l1 c1 o2 l2 c2 eo en ec e E hs1 hs2 hR hm hmost hb hec hz hE hok hokl hfr hN hmany
 obtain ⟨W0, hW0⟩ : ∃ W0, W0 = (W.alloc (.cells (cells9 h o1 l1 c1 o2 l2 c2) 29)).alloc (.cells #[.int .i64 0, .int .i64 0, .slice none 0 0] 24) := ⟨_, rfl⟩
 have hq0 : Quiet0 W W0 := by rw [hW0]; exact (Quiet0.alloc _ _).trans (Quiet0.alloc _ _)
 have hz0 : W0.heap.size = W.heap.size + 2 := by rw [hW0]; simp
 have h4 : Bx pb W0 W.heap.size (cells9 h o1 l1 c1 o2 l2 c2) 29 := Bx.new hm hq0 (Nat.le_refl _) (by rw [hW0]; exact blk_after (Quiet0.alloc _ _) (heap_alloc_new W _))
 have h6 : Bx pb W0 (W.heap.size + 1) #[.int .i64 0, .int .i64 0, .slice none 0 0] 24 := Bx.new hm hq0 (by omega) (by
  rw [hW0]
  have := heap_alloc_new (W.alloc (.cells (cells9 h o1 l1 c1 o2 l2 c2) 29)) (.cells #[.int .i64 0, .int .i64 0, .slice none 0 0] 24)
  simpa using this)
 have hm0 := hm.more hq0 (fun i => i = W.heap.size + 1) (fun i hi => by subst hi; omega)
 have hp := hm.lt
 have hl0 := Later.of_quiet hq0 hp
 have hnx := (termM_nm most h ps E hE.ne mk).1
 have hnb : mk.next <= 500000000 := Nat.le_trans hnx hN
 have HTK := hid (take_any hm0 (by omega))
 have HM := hid hm
 have HL0 := hid hl0
 have H4 := hid h4
 have H6 := hid h6
 have HP := hid hp
 have HS2 := hid hs2
 have HR := hid hR
 have HBF := hid hb
 have HE := hid hE
 have HOKL := hid hokl
 have HFR := hid hfr
 have HNB : Hid ((termM most h ps E mk).2.next <= NBd) := hN
 have HMO := hid hmost
 have HK := hid hk
 have HGO := hid (term_go most h ps E mk hmany)
 have HM0P := hid hm0.lt
 have t2 : (h.k == 2) = false := by rw [hk]; rfl
 have t3 : (h.k == 3) = false := by rw [hk]; rfl
 have t1 : (h.k == 1) = false := by rw [hk]; rfl
 have t4 : (h.k == 4) = false := by rw [hk]; rfl
 have t6 : (h.k == 6) = false := by rw [hk]; rfl
 have t7 : (h.k == 7) = false := by rw [hk]; rfl
 have t5 : (h.k == 5) = false := by rw [hk]; rfl
 have t8 : (h.k == 8) = false := by rw [hk]; rfl
 have t9 : (h.k == 9) = true := by rw [hk]; rfl
 obtain ⟨X1, hX1⟩ : ∃ X1, X1 = (fun i => X i ∨ i = W.heap.size + 1) := ⟨_, rfl⟩
 have HX1 : Hid (∀ i, X1 i = (X i ∨ i = W.heap.size + 1)) := fun i => by rw [hX1]
 rw [<- hX1] at HTK
 clear hs1 hs2 hR hm hb hE hok hokl hfr hN hm0 hl0 hq0 h4 h6 hX1 hnx hk hp hz0 hmost
 have HFP : Hid (∀ j g qs, ps.get j = some (g, qs) -> Sc.free1 (names e) g qs = []) := fun j g qs hg => by
  have k := free_of HFR.out (by rw [HK.out]; decide) hg
  rwa [envOf_same _ _ (by rw [HK.out]; exact not_binds (by decide) (by decide) (by decide) j)] at k
 have IH := hid ih
 clear ih
 obtain ⟨res, hres⟩ : ∃ res, mapE E (valsM most ps) { mk with next := mk.next + 1 } = res := ⟨_, rfl⟩
 obtain ⟨fin, hfin⟩ : ∃ fin, (eqP most (tv mk.next) (5, 0, foOf res.1) h.fr h.en res.2).2 = fin := ⟨_, rfl⟩
 have HRES : Hid (termM most h ps E mk = (tv mk.next, fin)) := by show _ = _; rw [HGO.out, body_tuple HK.out, hres, hfin]
 have HRL : Hid (res.1.length = l2) := by show _ = _; rw [<- hres, mapE_length, valsM_length, HS2.out.1]
 have HRN : Hid (res.2.next <= NBd) := by
  show _ <= _
  have k := HNB.out
  rw [HRES.out] at k
  rw [<- hfin] at k
  simpa only [eqP_nx] using k
 have HEQR := hid hres
 have HFIN := hid hfin
 have hlz : l2 <= 100000 := by have := To.length_le ps; have := HS2.out.1; omega
 clear hres hfin
 unfold MkQ
 unfold tmv
 go_enter Tryz.func42, Tryz.ntmps42
 generalize hBB : W.heap.size = B at *
 go_upto_region 1 with fail
 rw [<- hW0]
 clear hW0
 go_wp2_with fail
 refine HTK.out.mono ?_; rintro x w1 ⟨n0, oo, cc, hn0, rfl, hm1, hl1⟩
 obtain rfl : mk.next = n0 := tv_inj hn0
 obtain ⟨W2, hW2⟩ : ∃ W2, W2 = w1.alloc (.cells #[.int .i64 1, .int .i64 mk.next, .slice oo 0 cc] 24) := ⟨_, rfl⟩
 have hq2 : Quiet0 w1 W2 := by rw [hW2]; exact Quiet0.alloc _ _
 have h7 : Bx pb W2 w1.heap.size #[.int .i64 1, .int .i64 mk.next, .slice oo 0 cc] 24 := Bx.new hm1 hq2 (Nat.le_refl _) (by rw [hW2]; exact heap_alloc_new w1 _)
 have H7 := hid h7
 have hm2 := hm1.stay hq2
 replace hm2 : MkE X1 most pb W2 { mk with next := mk.next + 1 } := hm2
 have hl2 := hl1.quiet hq2 HM0P.out
 have HM2 := hid hm2
 have HL2 := hid (HL0.out.trans hl2)
 have H42 := hid (H4.out.later hl2)
 have H62 := hid (H6.out.later hl2)
 have HP2 := hid hm2.lt
 clear hm1 hl1 hq2 h7 hm2 hl2 hn0 H4 H6 HL0 HTK
 unfold tyv
 go_upto_region 2 with fail
 change Code.wp _ _ _ _ (w1.alloc (.cells #[.int .i64 1, .int .i64 mk.next, .slice oo 0 cc] 24))
 rw [<- hW2]
 clear hW2
 generalize hC : w1.heap.size = C at *
 obtain ⟨ko, kc, kxs, hmka⟩ := HM2.out
 obtain ⟨_, _, _, q3⟩ := mk_cells hmka.box
 replace q3 : W2.cell? ⟨pb, 3, none⟩ = some (.bool false) := by rw [<- hmany]; exact q3
 obtain ⟨a0, a1, a2, a3, a4, a5, a6, a7, a8⟩ := cells9_block H42.out.1
 obtain ⟨b0, b1, b2, _, _, _⟩ := box_cells3 H7.out.1
 clear hmka
 have HPT : Hid (∀ W, Later pb W2 W -> MkE X1 most pb W { mk with next := mk.next + 1 } -> Calls Tryz.prog 71 #[.pointer (some ⟨pb, 0, none⟩), tmv h o1 l1 c1 o2 l2 c2, .slice eo en ec] W (PtQ X1 most pb W res)) := fun W' hl hmw => by
  have hl' := HL2.out.trans hl
  have k := parts_any h ps IH.out W' R X1 most pb { mk with next := mk.next + 1 } o1 l1 c1 o2 l2 c2 eo en ec e E (tslc_later HS2.out HR.out HM.out hl') HR.out hmw HMO.out (HBF.out.later hl') hec hz (HE.out.later hl' (Nat.le_succ _)) HOKL.out HFP.out (by rw [HEQR.out]; exact HRN.out)
  rw [HEQR.out] at k
  exact k
 have HPU : Hid (∀ W, Later pb W2 W -> MkE X1 most pb W { mk with next := mk.next + 1 } -> Calls Tryz.prog 71 #[.pointer (some ⟨pb, 0, none⟩), tmv h o1 l1 c1 o2 l2 c2, .slice eo en ec] W (TpQ X1 most pb W l2 res)) := fun W hl hmw => (HPT.out W hl hmw).mono (by
  rintro x w' ⟨o, c, rfl, hcl, hpt, hm3, hl3⟩
  have hs := hpt.slc
  rw [HRL.out] at hs ⊢
  exact ⟨o, c, rfl, hs, by rw [hpt.size, HRL.out]; exact hlz, hm3, hl3⟩)
 unfold tmv at HPU
 have HEQ : Hid (∀ (W : World) (o4 : Option Addr) (c4 : Nat), MkE X1 most pb W res.2 -> SlcIn (TF X1 pb W) W o4 l2 (foOf res.1) -> (foOf res.1).size <= 100000 -> Calls Tryz.prog 66 #[.pointer (some ⟨pb, 0, none⟩), .agg #[.int .i64 1, .int .i64 mk.next, .slice oo 0 cc], .agg #[.int .i64 5, .int .i64 0, .slice o4 l2 c4], .agg #[.int .i64 h.fr, .int .i64 h.en]] W (MkU X1 most pb W fin)) := fun W o4 c4 hmw hs hz5 => by
  have k := equate_any (o1 := oo) (l1 := 0) (c1 := cc) (c2 := c4) hmw HMO.out (tv mk.next) (5, 0, foOf res.1) h.fr h.en (SlcIn.nil _ _ _) hs (Nat.le_of_ble_eq_true rfl) hz5
  rw [HFIN.out] at k
  exact k
 have HSS : Hid (∀ W, Later pb W2 W -> (W.cell? ⟨B, 0, none⟩ = some (.int .i64 h.k) /\ W.cell? ⟨B, 1, none⟩ = some (.string h.nm) /\ W.cell? ⟨B, 2, none⟩ = some (.int .i64 h.n) /\ W.cell? ⟨B, 3, none⟩ = some (.int .i64 h.tk) /\ W.cell? ⟨B, 4, none⟩ = some (.int .i64 h.tn) /\ W.cell? ⟨B, 5, none⟩ = some (.slice o1 l1 c1) /\ W.cell? ⟨B, 6, none⟩ = some (.slice o2 l2 c2) /\ W.cell? ⟨B, 7, none⟩ = some (.int .i64 h.fr) /\ W.cell? ⟨B, 8, none⟩ = some (.int .i64 h.en)) /\ (W.cell? ⟨C, 0, none⟩ = some (.int .i64 1) /\ W.cell? ⟨C, 1, none⟩ = some (.int .i64 mk.next) /\ W.cell? ⟨C, 2, none⟩ = some (.slice oo 0 cc))) := fun W hl => by
  obtain ⟨k0, k1, k2, _⟩ := box_cells3 (H7.out.later hl).1
  exact ⟨cells9_block (H42.out.later hl).1, ⟨k0, k1, k2⟩⟩
 have hpb := HP2.out
 have hmk := HM2.out
 have hlc := Later.refl hpb
 go_upto_region 27 with fail
 go_region_held3 (fun W => (W.cell? ⟨B, 0, none⟩ = some (.int .i64 h.k) /\ W.cell? ⟨B, 1, none⟩ = some (.string h.nm) /\ W.cell? ⟨B, 2, none⟩ = some (.int .i64 h.n) /\ W.cell? ⟨B, 3, none⟩ = some (.int .i64 h.tk) /\ W.cell? ⟨B, 4, none⟩ = some (.int .i64 h.tn) /\ W.cell? ⟨B, 5, none⟩ = some (.slice o1 l1 c1) /\ W.cell? ⟨B, 6, none⟩ = some (.slice o2 l2 c2) /\ W.cell? ⟨B, 7, none⟩ = some (.int .i64 h.fr) /\ W.cell? ⟨B, 8, none⟩ = some (.int .i64 h.en)) /\ (W.cell? ⟨C, 0, none⟩ = some (.int .i64 1) /\ W.cell? ⟨C, 1, none⟩ = some (.int .i64 mk.next) /\ W.cell? ⟨C, 2, none⟩ = some (.slice oo 0 cc)))
  (((refine HSS.out _ ?_); (repeat with_reducible first | exact hlc | exact Later.refl hpb | refine jm hpb ?_ | refine jo hpb ?_)))
  (first
   | ((go_at_call 71; (with_reducible refine Calls.mono (HPU.out _ ?hq ?hm) ?_)); (case hq => (repeat with_reducible first | exact hlc | exact Later.refl hpb | refine jm hpb ?_ | refine jo hpb ?_)); (case hm => (repeat with_reducible first | exact hmk | refine ja ?_ | refine jb ?_)); rintro e wx ⟨o4, c4, rfl, hs4, hz4, hmk, hlx⟩; (refine with_lt (pb := pb) (w0 := W2) ?hl2 hlx ?_); (case hl2 => (repeat with_reducible first | exact hlc | exact Later.refl hpb | refine jm hpb ?_ | refine jo hpb ?_)); intro hlc)
   | ((go_at_call 66; (with_reducible refine Calls.mono (HEQ.out _ _ _ ?hm ?hs1 hz4) ?_)); (case hm => (repeat with_reducible first | exact hmk | refine ja ?_ | refine jb ?_)); (case hs1 => (repeat (first | with_reducible exact hs4 | ((with_reducible refine slc_st (pb := pb) (X := X1) (most := most) (k := res.2) ?hmS (Quiet0.alloc _ _) ?_); (case hmS => (repeat with_reducible first | exact hmk | refine ja ?_ | refine jb ?_))) | ((with_reducible refine slc_st (pb := pb) (X := X1) (most := most) (k := res.2) ?hmS (Quiet0.drew _) ?_); (case hmS => (repeat with_reducible first | exact hmk | refine ja ?_ | refine jb ?_))) | fail))); rintro e wx ⟨rfl, hmk, hlx⟩; (refine with_lt (pb := pb) (w0 := W2) ?hl2 hlx ?_); (case hl2 => (repeat with_reducible first | exact hlc | exact Later.refl hpb | refine jm hpb ?_ | refine jo hpb ?_)); intro hlc)
   | fail)
 all_goals
  have HM4 := hid hmk
  have HL4 := hid hlc
  clear hmk hlc
  obtain ⟨g0, g1, g2, _, _, _⟩ := box_cells3 (H7.out.later HL4.out).1
  have hb6 := (H62.out.later HL4.out).1
  have HB6 := hid hb6
  obtain ⟨d0, d1, d2, y0, y1, y2⟩ := box_cells3 hb6
  clear hb6
  go_wp2_with fail
  clear d0 d1 d2 y0 y1 y2
  have hf := put3_fr wx (B + 1) (.int .i64 1) (.int .i64 mk.next) (.slice oo 0 cc)
  obtain ⟨f0, f1, f2⟩ := put3_cells (a := .int .i64 1) (b := .int .i64 mk.next) (c := .slice oo 0 cc) HB6.out
  change bodyPost _ _ _ _ _ (put3 wx (B + 1) (.int .i64 1) (.int .i64 mk.next) (.slice oo 0 cc))
  generalize put3 wx (B + 1) (.int .i64 1) (.int .i64 mk.next) (.slice oo 0 cc) = wf at *
  refine bodyPost_ret (by simp [results, Tryz.results42, go_sem, f0, f1, f2]; rfl) rfl ?_
  have hp : pb < W.heap.size := by rw [hBB]; exact HP.out
  refine ⟨mk.next, oo, cc, by rw [HRES.out], rfl, ?_, (HL2.out.trans HL4.out).put hf hp (fun i hi => by omega)⟩
  rw [HRES.out]
  exact (HM4.out.put (hf.mono (fun i _ e => by rw [HX1.out]; exact Or.inr (by omega)))).less (fun i hi => by rw [HX1.out]; exact Or.inl hi)
end Em
end
end Go.Proofs.YtcninopmelmajaaGreatDoor
