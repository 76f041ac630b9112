/-
  Texts laid together (SuThen, SuRefSolves, SuPlain, SuRight): what each one proves, and its conditions, stands at its head.
-/
import Derived.Test.YtggidhgifaekbaaDoorMB1
import Derived.Test.YtggidhgifaekbaaDoorMB2
import Derived.Test.YtggidhgifaekbaaDoorMB3
import Derived.Test.YtggidhgifaekbaaDoorMB4
import Derived.Test.YtggidhgifaekbaaDoorMB5
import Derived.Test.YtggidhgifaekbaaDoorMB6
import Derived.Test.YtggidhgifaekbaaDoorMB7
/-
  The program's Then. Conditions: the rows lie in memory as told; numbers are in range; all is small.
-/
namespace Go.Proofs.YtggidhgifaekbaaDoor
open Go.RowKit Go.Maps

/-- the program's apply on a type that lies in memory: what comes of it lies in new blocks -/
theorem apply_in (l : List Bd) (hl : ∀ t ∈ l, t.2.2.2.size ≤ 1000000) (k n : Int) (ps : Fo) (hz : ps.size ≤ 1000000) (hn : wfI n) (hw : wfF ps) (k' n' : Int) (ps' : Fo) (e1 : sK l k n = k') (e2 : sN l k n = n') (e3 : sP l k n ps = ps')
    (W : World) (o : Option Addr) (len cap b m : Nat) (q : Int → Option Value) (hm : MapT W b m q) (ht : TabAt W q (findB l)) (hs : Slc W o len ps) :
    Calls Tryd.prog 88 #[.map (some b), .agg #[.int .i64 k, .int .i64 n, .slice o len cap]] W fun e w' => ∃ o' len' cap', e = .returned (.agg #[.int .i64 k', .int .i64 n', .slice o' len' cap']) ∧ SlcIn (fun b => W.heap.size ≤ b) w' o' len' ps' ∧ Quiet0 W w' := by
  subst e1 e2 e3
  refine (apply_any l hl k n ps W o len cap b m q hm ht hs hz hn hw).mono ?_
  rintro e w' ⟨o', len', cap', rfl, h1, h2⟩
  exact ⟨o', len', cap', rfl, h1, h2⟩
set_option maxHeartbeats 8000000 in
set_option maxRecDepth 100000 in
theorem suThen_any (la lb : List Bd) (w : World) (oa : Option Addr) (capa : Nat) (ob : Option Addr) (capb : Nat) (hsa : BindsAt w oa la) (hsb : BindsAt w ob lb) (hza : la.length ≤ 100000) (hzb : lb.length ≤ 100000)
    (hwa : ∀ t ∈ la, t.2.2.2.size ≤ 1000000 ∧ wfI t.1 ∧ wfI t.2.2.1 ∧ wfF t.2.2.2) (hwb : ∀ t ∈ lb, t.2.2.2.size ≤ 1000000 ∧ wfI t.1) :
    Calls Tryd.prog 56 #[.slice oa la.length capa, .slice ob lb.length capb] w fun e w' => ∃ a c, e = .returned (.slice a (thenB la lb).length c) ∧ BindsAt w' a (thenB la lb) ∧ Quiet0 w w' := by
  have HTB := Lib.hid (table_any lb w ob capb hsb (fun t h => (hwb t h).2) hzb)
  have HTA := Lib.hid (fun (W : World) (h : Quiet0 w W) => table_any la W oa capa (hsa.stay h) (fun t h => (hwa t h).2.1) hza)
  have HCA := Lib.hid (fun (W : World) (h : Quiet0 w W) => count_any la W oa capa (hsa.stay h) (fun t h => (hwa t h).2.1) hza)
  have HCB := Lib.hid (fun (W : World) (h : Quiet0 w W) => count_in (fun k => k < w.heap.size) lb W ob capb (hsb.lt.fr h (fun k _ hk => ⟨hk, fun h => h⟩)) (fun t h => (hwb t h).2) hzb)
  obtain ⟨N0, hN0⟩ : ∃ N0, N0 = w.heap.size := ⟨_, rfl⟩
  rw [← hN0] at HCB
  have HN0 := Lib.hid hN0
  have HWA : Hid (∀ t ∈ firstB la, t.2.2.2.size ≤ 1000000 ∧ wfI t.1 ∧ wfI t.2.2.1 ∧ wfF t.2.2.2) := fun t ht => by
    rcases first_sub la [] t ht with h | h
    · simp at h
    · exact hwa t h
  have HWB : Hid (∀ t ∈ firstB lb, t.2.2.2.size ≤ 1000000 ∧ wfI t.1) := fun t ht => by
    rcases first_sub lb [] t ht with h | h
    · simp at h
    · exact hwb t h
  have HLB : Hid (∀ t ∈ lb, t.2.2.2.size ≤ 1000000) := fun t h => (hwb t h).1
  have hfa : (firstB la).length ≤ 100000 := Nat.le_trans (first_length la) hza
  have hfb : (firstB lb).length ≤ 100000 := Nat.le_trans (first_length lb) hzb
  have HSM : Hid (∀ v, hasB la v = (findB la v).isSome) := fun v => by
    cases h : findB la v with
    | none => exact findB_none.1 h
    | some t =>
      cases hh : hasB la v
      · rw [findB_none.2 hh] at h; cases h
      · rfl
  unfold thenB
  obtain ⟨X, hX⟩ : ∃ X, X = (firstB la).map (thenF lb) ++ (firstB lb).filter (fun t => !hasB la t.1) := ⟨_, rfl⟩
  rw [← hX]
  have HX := Lib.hid hX
  generalize hFA : firstB la = FA at *
  generalize hFB : firstB lb = FB at *
  clear hsa hsb hwa hwb hX hFA hFB hN0
  go_enter Tryd.func56, Tryd.ntmps56
  go_wp2_with fail
  refine HTB.out.mono ?_; rintro e w1 ⟨mb, nb, qb, rfl, _, hm1, ht1, hq1⟩
  have HM1 := Lib.hid hm1
  have HT1 := Lib.hid ht1
  have HQ1 := Lib.hid hq1
  clear hm1 ht1 hq1
  go_wp2_with fail
  refine (HTA.out _ HQ1.out).mono ?_; rintro e w2 ⟨ma, na, qa, rfl, _, hm2, ht2, hq2⟩
  have HM2 := Lib.hid hm2
  have HT2 := Lib.hid ht2
  have HQ2 := Lib.hid hq2
  clear hm2 ht2 hq2
  go_wp2_with fail
  refine (HCA.out _ (HQ1.out.trans HQ2.out)).mono ?_; rintro e w3 ⟨pa, ca, rfl, hb3, hq3⟩
  have HB3 := Lib.hid hb3
  have HQ3 := Lib.hid (HQ2.out.trans hq3)
  have HM3 : Hid (∀ W, Quiet0 w3 W → MapT W ma na qa ∧ TabAt W qa (findB la)) := fun W h => ⟨HM2.out.stay (hq3.trans h), HT2.out.stay (hq3.trans h)⟩
  clear hb3 hq3
  go_wp2_with fail
  go_loopw [7, 21] (fun v t wr => ∃ (i : Nat) (xs : List Value) (vo : Option Addr) (vc : Nat), t = .int .i64 i ∧ i ≤ FA.length ∧ v = .slice vo i vc ∧ BdRow wr w3.heap.size (.slice vo i vc) ((FA.take i).map (thenF lb)) xs ∧ Quiet0 w3 wr) (fun _ t _ => FA.length - (intOf t).toNat)
  case atStart => exact ⟨0, [], none, 0, rfl, Nat.zero_le _, rfl, BdRow.nil _ _, Quiet0.refl _⟩
  case round =>
    obtain ⟨i, xs, vo, vc, rfl, hi, rfl, hrow, hq⟩ := hrel
    have HR := Lib.hid hrow
    have HQ := Lib.hid hq
    clear hrow hq
    by_cases hlt : i < FA.length
    · have hlt' : (i : Int) < FA.length := by omega
      obtain ⟨t, ht⟩ : ∃ t, FA[i]? = some t := ⟨_, List.getElem?_eq_getElem hlt⟩
      obtain ⟨hz1, _, hwn, hwp⟩ := HWA.out t (List.mem_of_getElem? ht)
      obtain ⟨b, off, o1, len1, cap1, rfl, e0, e1, e2, e3, hs1⟩ := HB3.out.stay HQ.out i t ht
      have HNT : Hid ((FA.take (i + 1)).map (thenF lb) = (FA.take i).map (thenF lb) ++ [thenF lb t]) := by
        show _ = _
        rw [List.take_add_one, ht, List.map_append]; rfl
      have HLN : Hid (((FA.take i).map (thenF lb)).length = i) := by show _ = _; rw [List.length_map, List.length_take]; omega
      have HOWN : Hid (∀ W, Quiet0 wr W → W.ownsRow 0 91 4 (.slice vo i vc) i xs) := fun W h => by
        have h' := (HR.out.stay h).own
        rw [HLN.out] at h'
        exact h'
      obtain ⟨v, kk, nn, pp⟩ := t
      simp only at e0 e1 e2 e3 hs1 hz1 hwn hwp
      have HAP := Lib.hid (fun (W : World) (h : Quiet0 wr W) => apply_in lb HLB.out kk nn pp hz1 hwn hwp _ _ _ rfl rfl rfl W o1 len1 cap1 mb nb qb (HM1.out.stay ((HQ3.out.trans HQ.out).trans h)) (HT1.out.stay ((HQ3.out.trans HQ.out).trans h)) (hs1.stay h))
      change Hid (_ = _ ++ [(v, sK lb kk nn, sN lb kk nn, sP lb kk nn pp)]) at HNT
      generalize sK lb kk nn = k2 at *
      generalize sN lb kk nn = n2 at *
      generalize sP lb kk nn pp = p2 at *
      obtain ⟨WB, hWB⟩ : ∃ WB, WB = wr.alloc (.cells #[.int .i64 v, .int .i64 kk, .int .i64 nn, .slice o1 len1 cap1] 91) := ⟨_, rfl⟩
      obtain ⟨BB, hBB⟩ : ∃ BB, BB = wr.heap.size := ⟨_, rfl⟩
      have HBB := Lib.hid hBB
      have HBX : Hid (WB.heap[BB]? = some (.cells #[.int .i64 v, .int .i64 kk, .int .i64 nn, .slice o1 len1 cap1] 91 (0, 0))) := by rw [hWB, hBB]; exact heap_alloc_new _ _
      have HQB : Hid (Quiet0 wr WB) := by rw [hWB]; exact Quiet0.alloc _ _
      have HBC : Hid (∀ w', Fr (fun j => (Value.slice vo i vc).ownBlock = some j) WB w' → w'.cell? ⟨BB, 0, none⟩ = some (.int .i64 v) ∧ w'.cell? ⟨BB, 1, none⟩ = some (.int .i64 kk) ∧ w'.cell? ⟨BB, 2, none⟩ = some (.int .i64 nn) ∧ w'.cell? ⟨BB, 3, none⟩ = some (.slice o1 len1 cap1)) := by
        intro w' h
        exact bind_cells (by rw [h.block BB (lt_of_block HBX.out) (fun h => by have := HR.out.lt _ h; have := HBB.out; omega)]; exact HBX.out)
      clear ht hs1 hz1 hwn hwp
      go_upto_region 6 with fail
      change Code.wp _ _ _ _ (wr.alloc (.cells #[.int .i64 v, .int .i64 kk, .int .i64 nn, .slice o1 len1 cap1] 91))
      rw [← hWB, ← hBB]
      clear hWB hBB e0 e1 e2 e3
      have hqc := Quiet0.refl WB
      obtain ⟨c0, c1, c2, c3⟩ := HBC.out WB (Fr.refl _ _)
      go_region_held3 (fun w' => w'.cell? ⟨BB, 0, none⟩ = some (.int .i64 v) ∧ w'.cell? ⟨BB, 1, none⟩ = some (.int .i64 kk) ∧ w'.cell? ⟨BB, 2, none⟩ = some (.int .i64 nn) ∧ w'.cell? ⟨BB, 3, none⟩ = some (.slice o1 len1 cap1))
        (((refine HBC.out _ ?_); (repeat (first | with_reducible exact HFR | with_reducible exact Quiet0.fr hqc | with_reducible exact Fr.refl _ _ | with_reducible refine Fr.trans ?_ (Fr.alloc _ _ _) | with_reducible refine Fr.trans ?_ (Fr.drew _ _) | ((with_reducible refine Fr.trans ?_ (Fr.setCell _ _ _ _ ?hsd)); (case hsd => (simp <;> omega))) | fail))))
        (first
          | (go_at_call 88; (with_reducible refine Calls.mono (HAP.out _ (HQB.out.trans ?hq)) ?_); (case hq => (repeat (first | with_reducible exact hqc | with_reducible exact Quiet0.refl _ | with_reducible refine Quiet0.trans ?_ (Quiet0.alloc _ _) | with_reducible refine Quiet0.trans ?_ (Quiet0.drew _) | fail))); rintro e wx ⟨oc, lc, cc, rfl, hsa, hqx⟩; (refine with_q (w0 := WB) ?hq2 hqx ?_); (case hq2 => (repeat (first | with_reducible exact hqc | with_reducible exact Quiet0.refl _ | with_reducible refine Quiet0.trans ?_ (Quiet0.alloc _ _) | with_reducible refine Quiet0.trans ?_ (Quiet0.drew _) | fail))); intro hqc)
          | (refine step_append_one wx (by rfl) (.tmp 25) (.tmp 33) 49 (by rfl) 91 _ 4 48 elemBd (.slice vo i vc) i xs (by rfl) (HOWN.out _ (HQB.out.trans hqc)) #[.int .i64 v, .int .i64 k2, .int .i64 n2, .slice oc lc cc] (by rfl) (by rfl) (by simp [Value.oneCell']) (by unfold maxLen; omega) (by omega) ?_; intro g2 c' w5 ho hf hg2; have HFR := Fr.trans (Quiet0.fr (S := fun j => (Value.slice vo i vc).ownBlock = some j) hqc) hf)
          | fail)
      all_goals
        have HRX := Lib.hid (HR.out.stay (HQB.out.trans hqc))
        have hsz : w3.heap.size ≤ wx.heap.size := ((HQ.out.trans HQB.out).trans hqc).size
        have HR2 : Hid (BdRow w5 w3.heap.size (.slice (some ⟨g2, 0, none⟩) (i + 1) c') ((FA.take (i + 1)).map (thenF lb)) (xs ++ [.int .i64 v, .int .i64 k2, .int .i64 n2, .slice oc lc cc])) := by
          show BdRow _ _ _ _ _
          rw [HNT.out]
          have h := BdRow.snoc (t := (v, k2, n2, p2)) (g := g2) (c := c') (w1 := w5) HRX.out (SlcIn.of_new hsa HR.out HQB.out.size) (by rw [HLN.out]; exact ho) hf hg2 hsz
          rw [HLN.out] at h
          exact h
        have HQ5 : Hid (Quiet0 w3 w5) := Fr.trans' ((HQ.out.trans HQB.out).trans hqc) hf (fun j hj h => absurd (HR.out.low j h) (by omega))
        clear ho hf hg2 hsa HFR hsz hqc
        go_wp2_with fail
        go_roundw
        case rel => exact ⟨i + 1, _, some ⟨g2, 0, none⟩, c', by go_num, by omega, rfl, HR2.out, HQ5.out⟩
        case measure => simp [intOf]; omega
    · have hlt' : ¬ (i : Int) < FA.length := by omega
      have htk : FA.take i = FA := List.take_of_length_le (by omega)
      have hil : i = FA.length := by omega
      rw [htk] at HR
      clear htk
      generalize hY : FA.map (thenF lb) = Y at *
      have HYL : Hid (Y.length = i) := by show _ = _; rw [← hY, List.length_map, hil]
      clear hY hil
      go_wp2_with fail
      have hH3 := HQ3.out.size
      have hH1 := HQ1.out.size
      refine (HCB.out _ ((HQ1.out.trans HQ3.out).trans HQ.out)).mono ?_; rintro e w6 ⟨pb, cb, rfl, hb6, hq6⟩
      have HLE : Hid (N0 ≤ w3.heap.size ∧ w3.heap.size ≤ wr.heap.size ∧ wr.heap.size ≤ w6.heap.size) := ⟨by have := HN0.out; omega, HQ.out.size, hq6.size⟩
      have HB6 : Hid (BindsIn (fun k => k < N0 ∨ (wr.heap.size ≤ k ∧ k < w6.heap.size)) w6 pb FB) := hb6.fr (Fr.refl (fun _ => False) _) (fun k hk h => ⟨h.elim (fun h => .inl h.1) (fun h => .inr ⟨h, hk⟩), fun h => h⟩)
      have HR6 := Lib.hid (HR.out.stay hq6)
      have HQ6 := Lib.hid (HQ.out.trans hq6)
      have HOL : Hid (∀ g, (Value.slice vo i vc).ownBlock = some g → g < wr.heap.size ∨ w6.heap.size ≤ g) := fun g hg => .inl (HR.out.lt g hg)
      obtain ⟨H1, hH⟩ : ∃ H1, H1 = wr.heap.size := ⟨_, rfl⟩
      rw [← hH] at HLE HB6 HOL
      clear hb6 hq6 hH hH3 hH1
      go_wp2_with fail
      go_loopw [7, 39] (fun v t wr => ∃ (j n : Nat) (xs : List Value) (vo : Option Addr) (vc : Nat), t = .int .i64 j ∧ j ≤ FB.length ∧ v = .slice vo n vc ∧ (Y ++ (FB.take j).filter (fun t => !hasB la t.1)).length = n ∧ BdRow wr w3.heap.size (.slice vo n vc) (Y ++ (FB.take j).filter (fun t => !hasB la t.1)) xs ∧
        (∀ g, (Value.slice vo n vc).ownBlock = some g → g < H1 ∨ w6.heap.size ≤ g) ∧ BindsIn (fun k => k < N0 ∨ (H1 ≤ k ∧ k < w6.heap.size)) wr pb FB ∧ w6.heap.size ≤ wr.heap.size ∧ Quiet0 w3 wr) (fun _ t _ => FB.length - (intOf t).toNat)
      case atStart => exact ⟨0, i, _, vo, vc, rfl, Nat.zero_le _, rfl, by rw [List.take_zero]; simpa using HYL.out, by rw [List.take_zero]; simpa using HR6.out, HOL.out, HB6.out, Nat.le_refl _, HQ6.out⟩
      case round =>
        obtain ⟨j, n, xs2, vo2, vc2, rfl, hj, rfl, hn, hrow, hol, hbw, hle, hq⟩ := hrel
        have HN := Lib.hid hn
        have HR2 := Lib.hid hrow
        have HQJ := Lib.hid hq
        have HOL2 := Lib.hid hol
        have HBW := Lib.hid hbw
        have HLW := Lib.hid hle
        clear hol hbw hle
        have hnb : n ≤ 200000 := by rw [← hn, List.length_append, HYL.out]; have := List.length_filter_le (fun t : Bd => !hasB la t.1) (FB.take j); rw [List.length_take] at this; omega
        clear hn hrow hq
        by_cases hlj : j < FB.length
        · have hlj' : (j : Int) < FB.length := by omega
          obtain ⟨t, ht⟩ : ∃ t, FB[j]? = some t := ⟨_, List.getElem?_eq_getElem hlj⟩
          obtain ⟨hz1, hwv⟩ := HWB.out t (List.mem_of_getElem? ht)
          obtain ⟨b, off, o1, len1, cap1, rfl, e0, e1, e2, e3, hs1⟩ := HBW.out.at j t ht
          have HNT : Hid (Y ++ (FB.take (j + 1)).filter (fun t => !hasB la t.1) = Y ++ (FB.take j).filter (fun t => !hasB la t.1) ++ if (!hasB la t.1) then [t] else []) := by
            show _ = _
            rw [List.take_add_one, ht, List.filter_append, List.append_assoc]
            cases h : hasB la t.1 <;> simp [h]
          obtain ⟨v, kk, nn, pp⟩ := t
          simp only at e0 e1 e2 e3 hs1 hz1 hwv HNT
          have HWV := Lib.hid hwv
          obtain ⟨WB, hWB⟩ : ∃ WB, WB = wr.alloc (.cells #[.int .i64 v, .int .i64 kk, .int .i64 nn, .slice o1 len1 cap1] 91) := ⟨_, rfl⟩
          obtain ⟨BB, hBB⟩ : ∃ BB, BB = wr.heap.size := ⟨_, rfl⟩
          have HBB := Lib.hid hBB
          have HBX : Hid (WB.heap[BB]? = some (.cells #[.int .i64 v, .int .i64 kk, .int .i64 nn, .slice o1 len1 cap1] 91 (0, 0))) := by rw [hWB, hBB]; exact heap_alloc_new _ _
          have HQB : Hid (Quiet0 wr WB) := by rw [hWB]; exact Quiet0.alloc _ _
          have hmt := HM3.out WB (HQJ.out.trans HQB.out)
          have HMA := Lib.hid hmt.1
          have htv := hmt.2 v
          have hsm := HSM.out v
          have HCP := Lib.hid (fun (W : World) (h : Quiet0 wr W) => copy_of kk nn pp hz1 W o1 len1 cap1 (hs1.stay h))
          clear ht hs1 hz1 hwv hmt
          cases hin : findB la v with
          | some u =>
            rw [hin] at htv hsm
            obtain ⟨uo, ul, uc, hqn, _⟩ := htv
            have hsm' : hasB la v = true := hsm
            have HNT2 : Hid (Y ++ (FB.take (j + 1)).filter (fun t => !hasB la t.1) = Y ++ (FB.take j).filter (fun t => !hasB la t.1)) := by
              show _ = _
              rw [HNT.out, hsm']; simp
            generalize u.2.1 = uk at *
            generalize u.2.2.1 = un at *
            unfold tyv at hqn
            clear hin hsm hsm' HNT
            go_upto_region 11 with fail
            change Code.wp _ _ _ _ (wr.alloc (.cells #[.int .i64 v, .int .i64 kk, .int .i64 nn, .slice o1 len1 cap1] 91))
            rw [← hWB, ← hBB]
            clear hWB hBB e0 e1 e2 e3
            obtain ⟨c0, c1, c2, c3⟩ := bind_cells HBX.out
            go_wp2_with (at_lookup; go_must (refine lookT_some _ rfl _ _ rfl rfl HMA.out v HWV.out hqn rfl ?_))
            go_wp2_with fail
            have HQE := Lib.hid (HQB.out.trans (Quiet0.alloc WB (.cells #[.int .i64 uk, .int .i64 un, .slice uo ul uc] 24)))
            go_roundw
            case rel => exact ⟨j + 1, n, xs2, vo2, vc2, by go_num, by omega, rfl, by rw [HNT2.out]; exact HN.out, by rw [HNT2.out]; exact HR2.out.stay HQE.out, HOL2.out, HBW.out.fr HQE.out (fun k _ hk => ⟨hk, fun h => h⟩), Nat.le_trans HLW.out HQE.out.size, HQJ.out.trans HQE.out⟩
            case measure => simp [intOf]; omega
          | none =>
            rw [hin] at htv hsm
            have hqn : qa v = none := htv
            have hsm' : hasB la v = false := hsm
            have HNT2 : Hid (Y ++ (FB.take (j + 1)).filter (fun t => !hasB la t.1) = Y ++ (FB.take j).filter (fun t => !hasB la t.1) ++ [(v, kk, nn, pp)]) := by
              show _ = _
              rw [HNT.out, hsm']; simp
            clear hin hsm hsm' HNT htv
            go_upto_region 11 with fail
            change Code.wp _ _ _ _ (wr.alloc (.cells #[.int .i64 v, .int .i64 kk, .int .i64 nn, .slice o1 len1 cap1] 91))
            rw [← hWB, ← hBB]
            clear hWB hBB e0 e1 e2 e3
            obtain ⟨c0, c1, c2, c3⟩ := bind_cells HBX.out
            go_wp2_with (at_lookup; go_must (refine lookT_none _ rfl _ _ rfl rfl HMA.out v HWV.out hqn rfl ?_))
            obtain ⟨WC, hWC⟩ : ∃ WC, WC = WB.alloc (.cells #[.int .i64 0, .int .i64 0, .slice none 0 0] 24) := ⟨_, rfl⟩
            have HQC : Hid (Quiet0 wr WC) := by rw [hWC]; exact HQB.out.trans (Quiet0.alloc _ _)
            have HBX3 : Hid (WC.heap[BB]? = some (.cells #[.int .i64 v, .int .i64 kk, .int .i64 nn, .slice o1 len1 cap1] 91 (0, 0))) := by rw [hWC]; exact blk_after (Quiet0.alloc _ _) HBX.out
            have HOWN2 : Hid (∀ W, Quiet0 wr W → W.ownsRow 0 91 4 (.slice vo2 n vc2) n xs2) := fun W h => by
              have h' := (HR2.out.stay h).own
              rw [HN.out] at h'
              exact h'
            have HBC : Hid (∀ w', Fr (fun j => (Value.slice vo2 n vc2).ownBlock = some j) WC w' → w'.cell? ⟨BB, 0, none⟩ = some (.int .i64 v) ∧ w'.cell? ⟨BB, 1, none⟩ = some (.int .i64 kk) ∧ w'.cell? ⟨BB, 2, none⟩ = some (.int .i64 nn) ∧ w'.cell? ⟨BB, 3, none⟩ = some (.slice o1 len1 cap1)) := by
              intro w' h
              exact bind_cells (by rw [h.block BB (lt_of_block HBX3.out) (fun h => by have := HR2.out.lt _ h; have := HBB.out; omega)]; exact HBX3.out)
            go_upto_region 13 with fail
            change Code.wp _ _ _ _ (WB.alloc (.cells #[.int .i64 0, .int .i64 0, .slice none 0 0] 24))
            rw [← hWC]
            clear hWC c0 c1 c2 c3
            have hqc := Quiet0.refl WC
            obtain ⟨c0, c1, c2, c3⟩ := HBC.out WC (Fr.refl _ _)
            go_region_held3 (fun w' => w'.cell? ⟨BB, 0, none⟩ = some (.int .i64 v) ∧ w'.cell? ⟨BB, 1, none⟩ = some (.int .i64 kk) ∧ w'.cell? ⟨BB, 2, none⟩ = some (.int .i64 nn) ∧ w'.cell? ⟨BB, 3, none⟩ = some (.slice o1 len1 cap1))
              (((refine HBC.out _ ?_); (repeat (first | with_reducible exact HFR | with_reducible exact Quiet0.fr hqc | with_reducible exact Fr.refl _ _ | with_reducible refine Fr.trans ?_ (Fr.alloc _ _ _) | with_reducible refine Fr.trans ?_ (Fr.drew _ _) | ((with_reducible refine Fr.trans ?_ (Fr.setCell _ _ _ _ ?hsd)); (case hsd => (simp <;> omega))) | fail))))
              (first
                | (go_at_call 53; (with_reducible refine Calls.mono (HCP.out _ (HQC.out.trans ?hq)) ?_); (case hq => (repeat (first | with_reducible exact hqc | with_reducible exact Quiet0.refl _ | with_reducible refine Quiet0.trans ?_ (Quiet0.alloc _ _) | with_reducible refine Quiet0.trans ?_ (Quiet0.drew _) | fail))); rintro e wx ⟨oc, cc, rfl, hsa, hqx⟩; (refine with_q (w0 := WC) ?hq2 hqx ?_); (case hq2 => (repeat (first | with_reducible exact hqc | with_reducible exact Quiet0.refl _ | with_reducible refine Quiet0.trans ?_ (Quiet0.alloc _ _) | with_reducible refine Quiet0.trans ?_ (Quiet0.drew _) | fail))); intro hqc)
                | (refine step_append_one wx (by rfl) (.tmp 52) (.tmp 59) 49 (by rfl) 91 _ 4 48 elemBd (.slice vo2 n vc2) n xs2 (by rfl) (HOWN2.out _ (HQC.out.trans hqc)) #[.int .i64 v, .int .i64 kk, .int .i64 nn, .slice oc len1 cc] (by rfl) (by rfl) (by simp [Value.oneCell']) (by unfold maxLen; omega) (by omega) ?_; intro g2 c' w5 ho hf hg2; have HFR := Fr.trans (Quiet0.fr (S := fun j => (Value.slice vo2 n vc2).ownBlock = some j) hqc) hf)
                | fail)
            all_goals
              have HRX := Lib.hid (HR2.out.stay (HQC.out.trans hqc))
              have hqx0 := (HQC.out.trans hqc)
              have hsz : w3.heap.size ≤ wx.heap.size := (HQJ.out.trans hqx0).size
              have hle := HLE.out
              have hlw : w6.heap.size ≤ wx.heap.size := Nat.le_trans HLW.out hqx0.size
              have HR3 : Hid (BdRow w5 w3.heap.size (.slice (some ⟨g2, 0, none⟩) (n + 1) c') (Y ++ (FB.take (j + 1)).filter (fun t => !hasB la t.1)) (xs2 ++ [.int .i64 v, .int .i64 kk, .int .i64 nn, .slice oc len1 cc])) := by
                show BdRow _ _ _ _ _
                rw [HNT2.out]
                have h := BdRow.snoc (t := (v, kk, nn, pp)) (g := g2) (c := c') (w1 := w5) HRX.out (SlcIn.of_new hsa HR2.out HQC.out.size) (by rw [HN.out]; exact ho) hf hg2 hsz
                rw [HN.out] at h
                exact h
              have HN2 : Hid ((Y ++ (FB.take (j + 1)).filter (fun t => !hasB la t.1)).length = n + 1) := by show _ = _; rw [HNT2.out, List.length_append, HN.out]; rfl
              have HB5 : Hid (BindsIn (fun k => k < N0 ∨ (H1 ≤ k ∧ k < w6.heap.size)) w5 (some ⟨b, off, none⟩) FB) := (HBW.out.fr (T := fun k => k < N0 ∨ (H1 ≤ k ∧ k < w6.heap.size)) hqx0 (fun k _ hk => ⟨hk, fun h => h⟩)).fr hf (fun k _ hk => ⟨hk, fun h => by
                have h1 := HR2.out.low k h
                have h2 := HOL2.out k h
                have hk' : k < N0 ∨ (H1 ≤ k ∧ k < w6.heap.size) := hk
                omega⟩)
              have HOL3 : Hid (∀ g, (Value.slice (some ⟨g2, 0, none⟩) (n + 1) c').ownBlock = some g → g < H1 ∨ w6.heap.size ≤ g) := fun g hg => by
                simp [Value.ownBlock] at hg
                subst hg
                rcases hg2 with h | h
                · exact HOL2.out _ h
                · exact .inr (Nat.le_trans hlw h)
              have HQ5 : Hid (Quiet0 w3 w5) := Fr.trans' (HQJ.out.trans hqx0) hf (fun j hj h => absurd (HR2.out.low j h) (by omega))
              have HLW5 : Hid (w6.heap.size ≤ w5.heap.size) := Nat.le_trans hlw hf.size
              clear ho hf hg2 hsa HFR hsz hqc hqx0 hle hlw
              go_wp2_with fail
              go_roundw
              case rel => exact ⟨j + 1, n + 1, _, some ⟨g2, 0, none⟩, c', by go_num, by omega, rfl, HN2.out, HR3.out, HOL3.out, HB5.out, HLW5.out, HQ5.out⟩
              case measure => simp [intOf]; omega
        · have hlj' : ¬ (j : Int) < FB.length := by omega
          have htk : FB.take j = FB := List.take_of_length_le (by omega)
          rw [htk, ← HX.out] at HR2 HN
          have HBA := Lib.hid HR2.out.binds
          have hXn : X.length = n := HN.out
          subst hXn
          clear htk
          go_wp2_with fail
          go_ret
          exact ⟨_, ⟨_, rfl⟩, HBA.out, (HQ1.out.trans HQ3.out).trans HQJ.out⟩
end Go.Proofs.YtggidhgifaekbaaDoor
/-
  Does a substitution solve equations: the reference. Conditions: the binds and the equations lie in memory as told; they are small.
-/
namespace Go.Proofs.YtggidhgifaekbaaDoor
open Go.RowKit Go.Maps

/-- the reference's Apply on a type that lies in memory -/
theorem refApply_of (w0 : World) (a : Option Addr) (c : Nat) (l : List Bd) (hb : BindsAt w0 a l) (hll : l.length ≤ 1000000) (k n : Int) (ps : Fo) (hz : ps.size ≤ 1000000) (k' n' : Int) (ps' : Fo) (e1 : sK l k n = k') (e2 : sN l k n = n') (e3 : sP l k n ps = ps')
    (W : World) (hq : Quiet0 w0 W) (o : Option Addr) (len cap : Nat) (hs : Slc W o len ps) :
    Calls Tryd.prog 59 #[.slice a l.length c, .agg #[.int .i64 k, .int .i64 n, .slice o len cap]] W fun e w' => ∃ o' len' cap', e = .returned (.agg #[.int .i64 k', .int .i64 n', .slice o' len' cap']) ∧ Slc w' o' len' ps' ∧ Quiet0 W w' := by
  subst e1 e2 e3
  refine (refApply_any w0 a c l hb hll k n ps W o len cap hq hs hz).mono ?_
  rintro e w' ⟨o', len', cap', rfl, h1, h2⟩
  exact ⟨o', len', cap', rfl, h1.slc, h2⟩
set_option maxHeartbeats 4000000 in
set_option maxRecDepth 100000 in
theorem refSolves_any (l : List Bd) (es : List Eqn) (w : World) (o : Option Addr) (cap : Nat) (oe : Option Addr) (cape : Nat) (hs : BindsAt w o l) (he : EqsAt w oe es) (hz : l.length ≤ 100000) (hze : es.length ≤ 100000)
    (hes : ∀ t ∈ es, t.1.2.2.size ≤ 1000000 ∧ t.2.1.2.2.size ≤ 1000000) :
    Calls Tryd.prog 42 #[.slice o l.length cap, .slice oe es.length cape] w fun e w' => e = .returned (.bool (es.all (eqP l))) ∧ Quiet0 w w' := by
  have HS := Lib.hid hs
  have HE := Lib.hid he
  have HES := Lib.hid hes
  obtain ⟨r, hr⟩ : ∃ r, r = es.all (eqP l) := ⟨_, rfl⟩
  have HR := Lib.hid hr
  rw [← hr]
  clear hs he hes hr
  go_enter Tryd.func42, Tryd.ntmps42
  go_wp2_with fail
  go_loopw [5] (fun t wr => ∃ i : Nat, t = .int .i64 i ∧ i ≤ es.length ∧ r = (es.drop i).all (eqP l) ∧ Quiet0 w wr) (fun t _ => es.length - (intOf t).toNat)
  case atStart => exact ⟨0, rfl, Nat.zero_le _, HR.out, Quiet0.refl _⟩
  case round =>
    obtain ⟨i, rfl, hi, hrr, hq⟩ := hrel
    have HRR := Lib.hid hrr
    have HQ := Lib.hid hq
    clear hrr hq
    by_cases hlt : i < es.length
    · have hlt' : (i : Int) < es.length := by omega
      obtain ⟨t, ht⟩ : ∃ t, es[i]? = some t := ⟨_, List.getElem?_eq_getElem hlt⟩
      obtain ⟨z1, z2⟩ := HES.out t (List.mem_of_getElem? ht)
      obtain ⟨b, off, o1, l1, c1, o2, l2, c2, rfl, a0, a1, a2, a3, a4, a5, a6, a7, s1, s2⟩ := HE.out.stay HQ.out i t ht
      have HN : Hid (r = (eqP l t && (es.drop (i + 1)).all (eqP l))) := by
        show _ = _
        rw [HRR.out, drop_some ht]; rfl
      have HA1 := Lib.hid (fun (W' : World) (h : Quiet0 wr W') => refApply_of w o cap l HS.out (by omega) t.1.1 t.1.2.1 t.1.2.2 z1 _ _ _ rfl rfl rfl W' (HQ.out.trans h) o1 l1 c1 (s1.stay h))
      have HA2 := Lib.hid (fun (W' : World) (h : Quiet0 wr W') => refApply_of w o cap l HS.out (by omega) t.2.1.1 t.2.1.2.1 t.2.1.2.2 z2 _ _ _ rfl rfl rfl W' (HQ.out.trans h) o2 l2 c2 (s2.stay h))
      unfold eqP at HN
      generalize sK l t.1.1 t.1.2.1 = k1 at *
      generalize sN l t.1.1 t.1.2.1 = n1' at *
      generalize sP l t.1.1 t.1.2.1 t.1.2.2 = p1 at *
      generalize sK l t.2.1.1 t.2.1.2.1 = k2 at *
      generalize sN l t.2.1.1 t.2.1.2.1 = n2' at *
      generalize sP l t.2.1.1 t.2.1.2.1 t.2.1.2.2 = p2 at *
      have HSM := Lib.hid (fun (W' : World) oa la ca ob lb cb (ha : Slc W' oa la p1) (hb : Slc W' ob lb p2) => refSame_any k1 n1' p1 k2 n2' p2 W' oa la ca ob lb cb ha hb)
      unfold tyv at HSM
      generalize sameT k1 n1' p1 k2 n2' p2 = sm at *
      generalize t.1.1 = ka at *
      generalize t.1.2.1 = na at *
      generalize t.2.1.1 = kb at *
      generalize t.2.1.2.1 = nb at *
      have HBC : Hid (∀ w', Quiet0 wr w' → (w'.cell? ⟨b, off + i * 8, none⟩ = some (.int .i64 ka) ∧ w'.cell? ⟨b, off + i * 8 + 1, none⟩ = some (.int .i64 na) ∧ w'.cell? ⟨b, off + i * 8 + 2, none⟩ = some (.slice o1 l1 c1)) ∧ w'.cell? ⟨b, off + i * 8 + 3, none⟩ = some (.int .i64 kb) ∧ w'.cell? ⟨b, off + i * 8 + 3 + 1, none⟩ = some (.int .i64 nb) ∧ w'.cell? ⟨b, off + i * 8 + 3 + 2, none⟩ = some (.slice o2 l2 c2)) := fun W h => ⟨⟨h.at a0, h.at a1, h.at a2⟩, h.at a3, h.at a4, h.at a5⟩
      clear ht z1 z2 a0 a1 a2 a3 a4 a5 a6 a7 s1 s2
      have hqc := Quiet0.refl wr
      obtain ⟨⟨a1, a2, a3⟩, a4, a5, a6⟩ := HBC.out wr hqc
      go_wp2_with fail
      go_region_held3 (fun w' => (w'.cell? ⟨b, off + i * 8, none⟩ = some (.int .i64 ka) ∧ w'.cell? ⟨b, off + i * 8 + 1, none⟩ = some (.int .i64 na) ∧ w'.cell? ⟨b, off + i * 8 + 2, none⟩ = some (.slice o1 l1 c1)) ∧ w'.cell? ⟨b, off + i * 8 + 3, none⟩ = some (.int .i64 kb) ∧ w'.cell? ⟨b, off + i * 8 + 3 + 1, none⟩ = some (.int .i64 nb) ∧ w'.cell? ⟨b, off + i * 8 + 3 + 2, none⟩ = some (.slice o2 l2 c2))
        (((refine HBC.out _ ?_); (repeat (first | with_reducible exact hqc | with_reducible exact Quiet0.refl _ | with_reducible refine Quiet0.trans ?_ (Quiet0.alloc _ _) | with_reducible refine Quiet0.trans ?_ (Quiet0.drew _) | fail))))
        (first
          | (go_at_call 59; (with_reducible refine Calls.mono (HA1.out _ ?hq) ?_); (case hq => (repeat (first | with_reducible exact hqc | with_reducible exact Quiet0.refl _ | with_reducible refine Quiet0.trans ?_ (Quiet0.alloc _ _) | with_reducible refine Quiet0.trans ?_ (Quiet0.drew _) | fail))); rintro e wx ⟨oa, la, ca, rfl, hsa, hqx⟩; (try (refine with_st hsb ?hq3 hqx ?_; (case hq3 => (repeat (first | with_reducible exact Quiet0.refl _ | with_reducible refine Quiet0.trans ?_ (Quiet0.alloc _ _) | with_reducible refine Quiet0.trans ?_ (Quiet0.drew _) | fail))); intro hsb)); (refine with_q (w0 := wr) ?hq2 hqx ?_); (case hq2 => (repeat (first | with_reducible exact hqc | with_reducible exact Quiet0.refl _ | with_reducible refine Quiet0.trans ?_ (Quiet0.alloc _ _) | with_reducible refine Quiet0.trans ?_ (Quiet0.drew _) | fail))); intro hqc)
          | (go_at_call 59; (with_reducible refine Calls.mono (HA2.out _ ?hq) ?_); (case hq => (repeat (first | with_reducible exact hqc | with_reducible exact Quiet0.refl _ | with_reducible refine Quiet0.trans ?_ (Quiet0.alloc _ _) | with_reducible refine Quiet0.trans ?_ (Quiet0.drew _) | fail))); rintro e wx ⟨ob, lb, cb, rfl, hsb, hqx⟩; (try (refine with_st hsa ?hq3 hqx ?_; (case hq3 => (repeat (first | with_reducible exact Quiet0.refl _ | with_reducible refine Quiet0.trans ?_ (Quiet0.alloc _ _) | with_reducible refine Quiet0.trans ?_ (Quiet0.drew _) | fail))); intro hsa)); (refine with_q (w0 := wr) ?hq2 hqx ?_); (case hq2 => (repeat (first | with_reducible exact hqc | with_reducible exact Quiet0.refl _ | with_reducible refine Quiet0.trans ?_ (Quiet0.alloc _ _) | with_reducible refine Quiet0.trans ?_ (Quiet0.drew _) | fail))); intro hqc)
          | (go_at_call 19; (with_reducible refine Calls.mono (HSM.out _ _ _ _ _ _ _ (hsa.stay ?h1) (hsb.stay ?h2)) ?_); ((case h1 => (repeat (first | with_reducible exact Quiet0.refl _ | with_reducible refine Quiet0.trans ?_ (Quiet0.alloc _ _) | with_reducible refine Quiet0.trans ?_ (Quiet0.drew _) | fail))); (case h2 => (repeat (first | with_reducible exact Quiet0.refl _ | with_reducible refine Quiet0.trans ?_ (Quiet0.alloc _ _) | with_reducible refine Quiet0.trans ?_ (Quiet0.drew _) | fail)))); rintro e wx ⟨rfl, hqx⟩; (refine with_q (w0 := wr) ?hq2 hqx ?_); (case hq2 => (repeat (first | with_reducible exact hqc | with_reducible exact Quiet0.refl _ | with_reducible refine Quiet0.trans ?_ (Quiet0.alloc _ _) | with_reducible refine Quiet0.trans ?_ (Quiet0.drew _) | fail))); intro hqc)
          | fail)
      all_goals
        clear hsa hsb a1 a2 a3 a4 a5 a6
        have HQ1 := Lib.hid (HQ.out.trans hqc)
        clear hqc
        cases sm
        · go_wp2_with fail
          go_ret
          exact ⟨by rw [HN.out]; rfl, HQ1.out⟩
        · go_wp2_with fail
          go_roundw
          case rel => exact ⟨i + 1, by go_num, by omega, HN.out, HQ1.out⟩
          case measure => simp [intOf]; omega
    · have hlt' : ¬ (i : Int) < es.length := by omega
      have HY : Hid (r = true) := by show _ = _; rw [HRR.out, List.drop_of_length_le (by omega)]; rfl
      go_wp2_with fail
      go_ret
      exact ⟨by rw [HY.out]; rfl, HQ.out⟩
end Go.Proofs.YtggidhgifaekbaaDoor
/-
  Substitutions, in plain words: which binds count, told in two ways; sizes. No program in sight but for the types' own predicates.
-/
namespace Go.Proofs.YtggidhgifaekbaaDoor
open Go.RowKit

def rightQ (t : Bd) : Bool := rightT 1 t.1 .nil && rightT t.2.1 t.2.2.1 t.2.2.2
def rightB (l : List Bd) : Bool := decide ((firstB l).length = l.length) && l.all rightQ
/-- bind by bind: does it count, behind those of acc, and is it right -/
def rightR : List Bd → List Bd → Bool
  | _, [] => true
  | acc, t :: r => !hasB acc t.1 && rightQ t && rightR (acc ++ [t]) r
theorem rightR_eq : ∀ (r acc F : List Bd), (∀ v, hasB F v = hasB acc v) → rightR acc r = (decide ((r.foldl firstStep F).length = F.length + r.length) && r.all rightQ)
  | [], acc, F, h => by simp [rightR]
  | t :: r, acc, F, h => by
    rw [rightR, List.foldl_cons]
    cases hh : hasB acc t.1
    · have e : firstStep F t = F ++ [t] := by unfold firstStep; rw [h, hh]; rfl
      rw [e, rightR_eq r (acc ++ [t]) (F ++ [t]) (fun v => by rw [hasB_snoc, hasB_snoc, h])]
      have e2 : (F ++ [t]).length + r.length = F.length + (t :: r).length := by simp; omega
      rw [e2, List.all_cons]
      cases rightQ t <;> simp
    · have e : firstStep F t = F := by unfold firstStep; rw [h, hh]; rfl
      rw [e]
      have := first_len r F
      have e2 : decide ((r.foldl firstStep F).length = F.length + (t :: r).length) = false := by simp; omega
      rw [e2]; simp
theorem rightB_eq (l : List Bd) : rightB l = rightR [] l := by
  rw [rightR_eq l [] [] (fun _ => rfl)]
  unfold rightB firstB; simp
/-- bind by bind: is there one that counts, of which p is so -/
def anyC (p : Bd → Bool) : List Bd → List Bd → Bool
  | _, [] => false
  | acc, t :: r => (!hasB acc t.1 && p t) || anyC p (acc ++ [t]) r
theorem any_first (p : Bd → Bool) : ∀ (r acc F : List Bd), (∀ v, hasB F v = hasB acc v) → (r.foldl firstStep F).any p = (F.any p || anyC p acc r)
  | [], acc, F, h => by simp [anyC]
  | t :: r, acc, F, h => by
    rw [anyC, List.foldl_cons]
    cases hh : hasB acc t.1
    · have e : firstStep F t = F ++ [t] := by unfold firstStep; rw [h, hh]; rfl
      rw [e, any_first p r (acc ++ [t]) (F ++ [t]) (fun v => by rw [hasB_snoc, hasB_snoc, h])]
      simp [Bool.or_assoc]
    · have e : firstStep F t = F := by unfold firstStep; rw [h, hh]; rfl
      rw [e, any_first p r (acc ++ [t]) F (fun v => by
        rw [hasB_snoc, h]
        by_cases he : t.1 = v
        · subst he; rw [hh]; rfl
        · simp [he])]
      simp
theorem firstB_any (p : Bd → Bool) (l : List Bd) : (firstB l).any p = anyC p [] l := by
  unfold firstB
  rw [any_first p l [] [] (fun _ => rfl)]; simp
/-- does the bind at a place count -/
theorem counts_eq : ∀ (l : List Bd) (k i : Nat) (t : Bd), l[i]? = some t → (idxB t.1 l k == ((k + i : Nat) : Int)) = !hasB (l.take i) t.1
  | [], k, i, t, h => by simp at h
  | u :: r, k, 0, t, h => by
    simp at h; subst h
    simp [idxB, hasB]
  | u :: r, k, i + 1, t, h => by
    have hr : r[i]? = some t := by simpa using h
    have ih := counts_eq r (k + 1) i t hr
    rw [show k + 1 + i = k + (i + 1) from by omega] at ih
    unfold idxB
    rw [List.take_succ_cons]
    cases hu : (u.1 == t.1)
    · simp only [Bool.false_eq_true, if_false]
      rw [ih]
      unfold hasB; simp [hu]
    · simp only [if_true]
      have e1 : ((k : Int) == ((k + (i + 1) : Nat) : Int)) = false := by simp; omega
      rw [e1]
      unfold hasB; simp [hu]
theorem counts0 (l : List Bd) (i : Nat) (t : Bd) (h : l[i]? = some t) : (idxB t.1 l 0 == (i : Int)) = !hasB (l.take i) t.1 := by
  have := counts_eq l 0 i t h
  rwa [Nat.zero_add] at this
theorem has_find (l : List Bd) (v : Int) : decide (0 ≤ idxB v l 0) = hasB l v := by
  rcases idxB_find v l 0 with ⟨h1, h2⟩ | ⟨j, t, h1, h2, h3⟩
  · rw [h1, findB_none.1 h2]; rfl
  · rw [h1]
    have : hasB l v = true := by
      cases hh : hasB l v
      · rw [findB_none.2 hh] at h3; cases h3
      · rfl
    rw [this]; simp
/-- the substitution's size -/
theorem substF_size (l : List Bd) (M : Nat) (hl : ∀ t ∈ l, t.2.2.2.size ≤ M) : ∀ f : Fo, (substF l f).size ≤ f.size * (M + 1)
  | .nil => by simp [substF, Fo.size]
  | .cons k n ps r => by
    have h1 := substF_size l M hl ps
    have h2 := substF_size l M hl r
    unfold substF
    cases hh : hit l k n with
    | none =>
      simp only [Fo.size]
      rw [Nat.add_mul, Nat.add_mul]; omega
    | some t =>
      simp only [Fo.size]
      have ht : t ∈ l := by
        unfold hit at hh
        split at hh
        · exact (findB_mem hh).1
        · cases hh
      have := hl t ht
      rw [Nat.add_mul, Nat.add_mul]; omega
theorem sP_size (l : List Bd) (M : Nat) (hl : ∀ t ∈ l, t.2.2.2.size ≤ M) (k n : Int) (ps : Fo) : (sP l k n ps).size ≤ (ps.size + 1) * (M + 1) := by
  have h := substF_size l M hl (.cons k n ps .nil)
  rw [substF_cons] at h
  simp only [Fo.size] at h
  unfold substF at h
  simp only [Fo.size] at h
  have e : ps.size + 1 + 0 = ps.size + 1 := rfl
  rw [e] at h
  omega
end Go.Proofs.YtggidhgifaekbaaDoor
/-
  The program's Right on substitutions; slices.IndexFunc and ContainsFunc on binds. Conditions: the binds lie in memory as told; their variables are in range; there are few.
-/
namespace Go.Proofs.YtggidhgifaekbaaDoor
open Go.RowKit Go.Maps

def bdv (t : Bd) (o : Option Addr) (len cap : Nat) : Value := .agg #[.int .i64 t.1, .int .i64 t.2.1, .int .i64 t.2.2.1, .slice o len cap]
def idxP (p : Bd → Bool) : List Bd → Nat → Int
  | [], _ => -1
  | t :: r, i => if p t then i else idxP p r (i + 1)
theorem idxP_any (p : Bd → Bool) : ∀ (l : List Bd) (i : Nat), decide (0 ≤ idxP p l i) = l.any p
  | [], i => rfl
  | t :: r, i => by
    unfold idxP
    rw [List.any_cons]
    cases h : p t
    · simp only [Bool.false_eq_true, if_false, Bool.false_or]; exact idxP_any p r (i + 1)
    · simp
def PredB (g : Nat) (lb : Array Value) (w0 : World) (l : List Bd) (p : Bd → Bool) : Prop := ∀ t ∈ l, ∀ (W : World) (o : Option Addr) (len cap : Nat), Quiet0 w0 W → Slc W o len t.2.2.2 →
  Calls Tryd.prog g (#[bdv t o len cap] ++ lb) W fun e W' => e = .returned (.bool (p t)) ∧ Quiet0 W W'
set_option maxHeartbeats 1000000 in
theorem indexB_any (g : Nat) (lb : Array Value) (p : Bd → Bool) (eg : ∀ args w, (callFunc g args).run Tryd.prog w = .ok (.enter g args) w) (l : List Bd) (o : Option Addr) (cap : Nat) (w : World) (hs : BindsAt w o l) (hp : PredB g lb w l p) (hz : l.length ≤ 1000000) :
    Calls Tryd.prog 121 #[.slice o l.length cap, .func (.func g) #[] lb] w fun e w' => e = .returned (.int .i64 (idxP p l 0)) ∧ Quiet0 w w' := by
  have HS := Lib.hid hs
  have HP := Lib.hid hp
  clear hs hp
  obtain ⟨res, hres⟩ : ∃ res, res = idxP p l 0 := ⟨_, rfl⟩
  have HR := Lib.hid hres
  rw [← hres]
  clear hres
  go_enter Tryd.func121, Tryd.ntmps121
  go_wp2_with fail
  go_loopw [8] (fun t wr => ∃ i : Nat, t = .int .i64 i ∧ i ≤ l.length ∧ res = idxP p (l.drop i) i ∧ Quiet0 w wr) (fun t _ => l.length - (intOf t).toNat)
  case atStart => exact ⟨0, rfl, Nat.zero_le _, HR.out, Quiet0.refl _⟩
  case round =>
    obtain ⟨i, rfl, hi, hr, hq⟩ := hrel
    have HRR := Lib.hid hr
    have HQ := Lib.hid hq
    clear hr hq
    by_cases hlt : i < l.length
    · have hlt' : (i : Int) < l.length := by omega
      obtain ⟨t, ht⟩ : ∃ t, l[i]? = some t := ⟨_, List.getElem?_eq_getElem hlt⟩
      obtain ⟨b, off, o1, l1, c1, rfl, a0, a1, a2, a3, s1⟩ := HS.out.stay HQ.out i t ht
      have HN : Hid (res = if p t then (i : Int) else idxP p (l.drop (i + 1)) (i + 1)) := by
        show _ = _
        rw [HRR.out, drop_some ht]; rfl
      have HC := Lib.hid (HP.out t (List.mem_of_getElem? ht) wr o1 l1 c1 HQ.out s1)
      unfold bdv at HC
      clear ht s1
      cases hb : p t
      all_goals
        rw [hb] at HC HN
        clear hb
        go_wp2_with fail
        refine HC.out.mono ?_; rintro e w1 ⟨rfl, hq1⟩
        have HQ1 := Lib.hid (HQ.out.trans hq1)
        clear hq1
        go_wp2_with fail
      · go_roundw
        case rel => exact ⟨i + 1, by go_num, by omega, HN.out, HQ1.out⟩
        case measure => simp [intOf]; omega
      · go_ret
        exact ⟨by rw [HN.out]; rfl, HQ1.out⟩
    · have hlt' : ¬ (i : Int) < l.length := by omega
      have HY : Hid (res = -1) := by show _ = _; rw [HRR.out, List.drop_of_length_le (by omega)]; rfl
      go_wp2_with fail
      go_ret
      exact ⟨by rw [HY.out]; rfl, HQ.out⟩
theorem containsB_any (g : Nat) (lb : Array Value) (p : Bd → Bool) (eg : ∀ args w, (callFunc g args).run Tryd.prog w = .ok (.enter g args) w) (l : List Bd) (o : Option Addr) (cap : Nat) (w : World) (hs : BindsAt w o l) (hp : PredB g lb w l p) (hz : l.length ≤ 1000000) :
    Calls Tryd.prog 99 #[.slice o l.length cap, .func (.func g) #[] lb] w fun e w' => e = .returned (.bool (l.any p)) ∧ Quiet0 w w' := by
  have HC := Lib.hid (indexB_any g lb p eg l o cap w hs hp hz)
  rw [← idxP_any p l 0]
  clear hs hp eg
  generalize idxP p l 0 = r at *
  go_enter Tryd.func99, Tryd.ntmps99
  go_wp2_with fail
  refine HC.out.mono ?_; rintro e w1 ⟨rfl, hq⟩
  go_wp2_with fail
  go_ret
  exact ⟨rfl, hq⟩
theorem eg_suright : ∀ args w, (callFunc 103 args).run Tryd.prog w = .ok (.enter 103 args) w := enters_of Tryd.func103 (by kernel_rfl) rfl
set_option maxHeartbeats 2000000 in
set_option maxRecDepth 100000 in
theorem right1_any (w0 : World) (l : List Bd) : PredB 103 #[] w0 l (fun t => !rightQ t) := by
  intro t ht W o len cap hq hs
  show Calls _ _ _ W fun e W' => e = .returned (.bool (!rightQ t)) ∧ Quiet0 W W'
  have HV := Lib.hid (fun (W : World) => var_any t.1 W)
  have HR1 := Lib.hid (fun (W : World) => right_any 1 t.1 .nil W none 0 0 (Slc.nil _ _))
  have HR2 := Lib.hid (fun (W' : World) (h : Quiet0 W W') => right_any t.2.1 t.2.2.1 t.2.2.2 W' o len cap (hs.stay h))
  unfold rightQ bdv
  unfold tyv at HV HR1 HR2
  generalize rightT 1 t.1 .nil = r1 at *
  generalize rightT t.2.1 t.2.2.1 t.2.2.2 = r2 at *
  generalize t.1 = v at *
  generalize t.2.1 = k at *
  generalize t.2.2.1 = n at *
  clear hs ht hq
  obtain ⟨W0, hW0⟩ : ∃ W0, W0 = W.alloc (.cells #[.int .i64 v, .int .i64 k, .int .i64 n, .slice o len cap] 91) := ⟨_, rfl⟩
  have HB : Hid (W0.heap[W.heap.size]? = some (.cells #[.int .i64 v, .int .i64 k, .int .i64 n, .slice o len cap] 91 (0, 0))) := by rw [hW0]; exact heap_alloc_new _ _
  have HQ0 : Hid (Quiet0 W W0) := by rw [hW0]; exact Quiet0.alloc _ _
  have HBC : Hid (∀ w', Quiet0 W0 w' → w'.cell? ⟨W.heap.size, 0, none⟩ = some (.int .i64 v) ∧ w'.cell? ⟨W.heap.size, 1, none⟩ = some (.int .i64 k) ∧ w'.cell? ⟨W.heap.size, 2, none⟩ = some (.int .i64 n) ∧ w'.cell? ⟨W.heap.size, 3, none⟩ = some (.slice o len cap)) := by
    intro w' h
    have hb := blk_after h HB.out
    refine ⟨?_, ?_, ?_, ?_⟩ <;> (rw [cell_of_row _ _ _ _ _ (0, 0) hb]; rfl)
  generalize hB : W.heap.size = B at *
  go_enter Tryd.func103, Tryd.ntmps103
  go_upto_region 1 with fail
  rw [← hW0]
  clear hW0 hB
  obtain ⟨a0, a1, a2, a3⟩ := HBC.out W0 (Quiet0.refl _)
  go_wp2_with fail
  refine (HV.out _).mono ?_; rintro e w1 ⟨rfl, hq1⟩
  have HQ1 := Lib.hid hq1
  obtain ⟨b0, b1, b2, b3⟩ := HBC.out w1 hq1
  clear hq1 a0 a1 a2 a3
  go_wp2_with fail
  refine (HR1.out _).mono ?_; rintro e w2 ⟨rfl, hq2⟩
  have HQ2 := Lib.hid (HQ1.out.trans hq2)
  obtain ⟨a0, a1, a2, a3⟩ := HBC.out w2 HQ2.out
  clear hq2 b0 b1 b2 b3
  cases r1
  · go_wp2_with fail
    go_ret
    exact ⟨rfl, HQ0.out.trans HQ2.out⟩
  · go_wp2_with fail
    refine (HR2.out _ (HQ0.out.trans HQ2.out)).mono ?_; rintro e w3 ⟨rfl, hq3⟩
    have HQ3 := Lib.hid (HQ2.out.trans hq3)
    clear hq3 a0 a1 a2 a3
    go_wp2_with fail
    go_ret
    exact ⟨rfl, HQ0.out.trans HQ3.out⟩
set_option maxHeartbeats 2000000 in
set_option maxRecDepth 100000 in
theorem suRight_any (l : List Bd) (w : World) (o : Option Addr) (cap : Nat) (hs : BindsAt w o l) (hw : ∀ t ∈ l, wfI t.1) (hz : l.length ≤ 100000) :
    Calls Tryd.prog 60 #[.slice o l.length cap] w fun e w' => e = .returned (.bool (rightB l)) ∧ Quiet0 w w' := by
  have HC := Lib.hid (count_any l w o cap hs hw hz)
  have HF := Lib.hid (fun (W : World) (h : Quiet0 w W) => containsB_any 103 #[] (fun t => !rightQ t) eg_suright l o cap W (hs.stay h) (right1_any W l) (by omega))
  have HA : Hid (rightB l = (decide ((firstB l).length = l.length) && !(l.any fun t => !rightQ t))) := by
    show _ = _
    unfold rightB
    rw [List.not_any_eq_all_not]; simp
  rw [HA.out]
  generalize (l.any fun t => !rightQ t) = r at *
  generalize hfl : (firstB l).length = fl at *
  obtain ⟨RR, hRR⟩ : ∃ RR, RR = (decide (fl = l.length) && !r) := ⟨_, rfl⟩
  rw [← hRR]
  have HRR := Lib.hid hRR
  have hfz : fl ≤ 100000 := by rw [← hfl]; have := first_len l []; simp at this; unfold firstB; omega
  clear hs hw hfl HA hRR
  go_enter Tryd.func60, Tryd.ntmps60
  go_wp2_with fail
  refine HC.out.mono ?_; rintro e w1 ⟨a, c, rfl, hb, hq1⟩
  have HQ1 := Lib.hid hq1
  clear hb hq1
  cases he : decide (fl = l.length)
  · have HE := Lib.hid he
    have he' : decide ((fl : Int) = l.length) = false := by simp at he ⊢; omega
    have he2 : ((fl : Int) == l.length) = false := by simp at he ⊢; omega
    clear he
    go_wp2_with fail
    go_ret
    exact ⟨by rw [HRR.out, HE.out]; rfl, HQ1.out⟩
  · have HE := Lib.hid he
    have he' : decide ((fl : Int) = l.length) = true := by simp at he ⊢; omega
    have he2 : ((fl : Int) == l.length) = true := by simp at he ⊢; omega
    go_wp2_with fail
    clear he
    refine (HF.out _ HQ1.out).mono ?_; rintro e w2 ⟨rfl, hq2⟩
    have HQ2 := Lib.hid (HQ1.out.trans hq2)
    clear hq2
    go_wp2_with fail
    go_ret
    exact ⟨by rw [HRR.out, HE.out]; cases r <;> rfl, HQ2.out⟩
end Go.Proofs.YtggidhgifaekbaaDoor
