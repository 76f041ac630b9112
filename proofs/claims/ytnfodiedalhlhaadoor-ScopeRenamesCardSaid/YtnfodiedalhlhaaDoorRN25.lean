/-
  Texts laid together (ScRenW): laws and walks, with their conditions in their statements.
-/
import Derived.Test.YtnfodiedalhlhaaDoorRN24
section
namespace Go.Proofs.YtnfodiedalhlhaaDoor
open Go.RowKit Go.Shelf
namespace Sc
theorem ren_keep {n1 m nb : Nat} {W4 w3 : World} (hf : Fr (fun k => (n1 ≤ k ∧ k < m) ∨ k = nb) W4 w3) (hn : nb + 2 ≤ n1) : Fr (fun k => nb + 2 ≤ k ∨ k = nb) W4 w3 := hf.mono (fun k _ h => h.imp (fun h => by omega) id)
theorem ren_keepa {n1 m nb : Nat} {W4 w3 : World} {o : Obj} (hf : Fr (fun k => (n1 ≤ k ∧ k < m) ∨ k = nb) W4 w3) (hn : nb + 2 ≤ n1) : Fr (fun k => nb + 2 ≤ k ∨ k = nb) W4 (w3.alloc o) := (ren_keep hf hn).trans (Fr.alloc _ _ _)
theorem ren_keep9 {n1 m nb b : Nat} {W4 w3 : World} {v0 v1 v2 v3 v4 v5 v6 v7 v8 : Value} (hf : Fr (fun k => (n1 ≤ k ∧ k < m) ∨ k = nb) W4 w3) (hn : nb + 2 ≤ n1) (hb : nb + 2 ≤ b) : Fr (fun k => nb + 2 ≤ k ∨ k = nb) W4 (((((((((w3.setCell ⟨b, 0, none⟩ v0).setCell ⟨b, 1, none⟩ v1).setCell ⟨b, 2, none⟩ v2).setCell ⟨b, 3, none⟩ v3).setCell ⟨b, 4, none⟩ v4).setCell ⟨b, 5, none⟩ v5).setCell ⟨b, 6, none⟩ v6).setCell ⟨b, 7, none⟩ v7).setCell ⟨b, 8, none⟩ v8) :=
  (ren_keep hf hn).trans ((nine_fr (nb + 2) _ _ _ _ _ _ _ _ _ _ _ hb).mono (fun _ _ h => .inl h))
theorem with_old {P G : Prop} (h : P) (k : P → G) : G := k h
set_option maxRecDepth 100000 in
set_option maxHeartbeats 8000000 in
theorem srename_any (h : Nd) (ps : To) (w : World) (R L : Nat → Prop) (o1 : Option Addr) (l1 c1 : Nat) (o2 : Option Addr) (l2 c2 : Nat) (lo : Option Addr) (lc : Nat) (l : List ByteArray) (hs1 : SlcIn R w o1 l1 h.tp) (hs : TSlc R w o2 l2 ps) (hz : ps.size ≤ 100000) (hg : allT GoodH (.cons h ps .nil)) (hL : StrT L w lo l) (hll : l.length ≤ 1000) (hls : ∀ s ∈ l, s.size ≤ 1000) (ht : Lx.Spaces w) :
    Calls Tryd.prog 26 #[tmv h o1 l1 c1 o2 l2 c2, .slice lo l.length lc] w (TmQ w (renS h ps l).1 (renS h ps l).2) := by
  obtain ⟨W0, hW0⟩ : ∃ W0, W0 = (w.alloc (.cells (cells9 h o1 l1 c1 o2 l2 c2) 30)).alloc (.cells zero9 30) := ⟨_, rfl⟩
  have HQ0 : Hid (Quiet0 w W0) := by rw [hW0]; exact (Quiet0.alloc _ _).trans (Quiet0.alloc _ _)
  have HB0 : Hid (W0.heap[w.heap.size]? = some (.cells (cells9 h o1 l1 c1 o2 l2 c2) 30 (0, 0))) := by
    show _ = _; rw [hW0, Below.heap_alloc _ _ _ (by simp)]; exact heap_alloc_new w _
  have HB1 : Hid (W0.heap[w.heap.size + 1]? = some (.cells zero9 30 (0, 0))) := by
    show _ = _; rw [hW0]
    have := heap_alloc_new (w.alloc (.cells (cells9 h o1 l1 c1 o2 l2 c2) 30)) (.cells zero9 30)
    simpa using this
  have HZ : Hid (W0.heap.size = w.heap.size + 2) := by show _ = _; rw [hW0]; simp
  have hq0 := HQ0.out
  have HRT : Hid (Calls Tryd.prog 38 #[tmv h o1 l1 c1 o2 l2 c2] W0 fun e w' => e = .returned (.bool (RT h ps)) ∧ Quiet0 W0 w') := Lib.hid (rightTm_any h ps W0 R o1 l1 c1 o2 l2 c2 (hs1.stay hq0) (hs.stay hq0) hz hg (ht.stay hq0))
  have HCO : Hid (∀ W, Quiet0 W0 W → Calls Tryd.prog 51 #[tmv h o1 l1 c1 o2 l2 c2] W (CopyOQ h ps W l1 l2)) := fun W hq => copyO_any h ps W R o1 l1 c1 o2 l2 c2 (hs1.stay (hq0.trans hq)) (hs.stay (hq0.trans hq)) (by have := hg.1.2.1; omega) (allT_mono (fun h hh => by have := hh.2.1; omega) _ hg.2.1) (by omega)
  have HAL : Hid (RT h ps = true → ∀ (W : World) (R' : Nat → Prop) (q1 : Option Addr) (m1 e1 : Nat) (q2 : Option Addr) (m2 e2 : Nat), SlcIn R' W q1 m1 (call1 okN [] [] l h ps).1.tp → TSlc R' W q2 m2 (call1 okN [] [] l h ps).2.1 → Quiet0 W0 W → Calls Tryd.prog 25 #[tmv (call1 okN [] [] l h ps).1 q1 m1 e1 q2 m2 e2, tmv h o1 l1 c1 o2 l2 c2] W fun e w' => e = .returned (.bool (refA1 [] [] (call1 okN [] [] l h ps).1 (call1 okN [] [] l h ps).2.1 h ps)) ∧ Quiet0 W w') := fun hr W R' q1 m1 e1 q2 m2 e2 k1 k2 hq => by
    have := alike8_any _ _ h ps W R' R q1 m1 e1 q2 m2 e2 o1 l1 c1 o2 l2 c2 k1 k2 (by rw [call_size]; exact hz) (call_good hg hls) (hs1.stay (hq0.trans hq)) (hs.stay (hq0.trans hq)) hz hg (ht.stay (hq0.trans hq))
    rw [alkB_ref, call_right l hr, hr] at this
    exact this
  have HRUN0 : Hid (∀ (w1 W : World) (n1 nb fb : Nat) (T L : Nat → Prop) (q1 : Option Addr) (e1 : Nat) (q2 : Option Addr) (e2 : Nat), Quiet0 w W → w.heap.size ≤ nb → nb < n1 → fb < n1 → nb ≠ fb → (∀ k, L k → k < nb) → SlcIn T w1 q1 l1 h.tp → TO T w1 (fun k => n1 ≤ k ∧ k < w1.heap.size ∧ ¬ T k) q2 l2 ps → (∀ k, T k → n1 ≤ k ∧ k < w1.heap.size) → RBox W fb nb → NBox L W nb l → Quiet0 w1 W →
      Calls Tryd.prog 52 #[tmv h q1 l1 e1 q2 l2 e2, .slice none 0 0, .slice none 0 0, .pointer (some ⟨nb, 0, none⟩), .pointer (some ⟨fb, 0, none⟩)] W (RunQ n1 w1.heap.size nb (call1 okN [] [] l h ps).1 (call1 okN [] [] l h ps).2.1 q1 l1 e1 q2 l2 e2 W)) := fun w1 W n1 nb fb T L q1 e1 q2 e2 k1 k2 k3 k4 k5 k6 k7 k8 k9 k10 k11 k12 => ren_run h ps hz l hll hls ht k1 k2 k3 k4 k5 k6 k7 k8 k9 k10 k11 k12
  have HSL := Lib.hid (hL.stay hq0)
  have HRS : Hid (renS h ps l = if RT h ps then (if refA1 [] [] (call1 okN [] [] l h ps).1 (call1 okN [] [] l h ps).2.1 h ps then ((call1 okN [] [] l h ps).1, (call1 okN [] [] l h ps).2.1) else (h, ps)) else (h, ps)) := rfl
  clear hs1 hs hz hg hL hls ht hq0
  generalize renS h ps l = fin at *
  generalize call1 okN [] [] l h ps = q at *
  obtain ⟨g, gs, lq⟩ := q
  dsimp only at HAL HRUN0 HRS
  unfold CopyOQ at HCO
  unfold tmv at HRT HCO HAL
  unfold tmv
  obtain ⟨ln, hln⟩ : ∃ ln, l.length = ln := ⟨_, rfl⟩
  have HLN := Lib.hid hln
  rw [hln] at hll ⊢
  clear hln
  go_enter Tryd.func26, Tryd.ntmps26
  go_upto_region 1 with fail
  rw [← hW0]
  clear hW0
  generalize hB : w.heap.size = B at *
  have HBE := Lib.hid hB
  clear hB
  obtain ⟨⟨x0, x1, x2, x3, x4, x5, x6, x7, x8⟩, _⟩ := block9 HB0.out
  go_wp2_with fail
  refine HRT.out.mono ?_; rintro x w1 ⟨rfl, hq1⟩
  have HQ1 := Lib.hid hq1
  clear hq1 x0 x1 x2 x3 x4 x5 x6 x7 x8
  obtain ⟨⟨x0, x1, x2, x3, x4, x5, x6, x7, x8⟩, _⟩ := block9 (blk_after HQ1.out HB0.out)
  cases hr : RT h ps
  case false =>
    have HE : Hid (fin = (h, ps)) := by have := HRS.out; rw [hr] at this; exact this
    clear hr HRS HAL HRUN0
    go_wp2_with fail
    refine (HCO.out _ HQ1.out).mono ?_; rintro x w2 ⟨q1, e1, q2, e2, T, rfl, hk1, hk2, hk3, hq2⟩
    have HK1 := Lib.hid hk1
    have HK2 := Lib.hid hk2
    have HK3 := Lib.hid hk3
    have HQ2 := Lib.hid hq2
    have HZ2 := Lib.hid (blk_after (HQ1.out.trans hq2) HB1.out)
    clear hk1 hk2 hk3 hq2 x0 x1 x2 x3 x4 x5 x6 x7 x8
    obtain ⟨⟨z0, z1, z2, z3, z4, z5, z6, z7, z8⟩, t0, t1, t2, t3, t4, t5, t6, t7, t8⟩ := block9 HZ2.out
    go_wp2_with fail
    have hbf := put9_block (a0 := .int .i64 h.k) (a1 := .string h.nm) (a2 := .int .i64 h.n) (a3 := .int .i64 h.tk) (a4 := .int .i64 h.tn) (a5 := .slice q1 l1 e1) (a6 := .slice q2 l2 e2) (a7 := .int .i64 h.fr) (a8 := .int .i64 h.en) HZ2.out
    have HFIN := Lib.hid (ren_fin (g := h) (gs := ps) (l1 := l1) (e1 := e1) (l2 := l2) (e2 := e2) (q1 := q1) (q2 := q2) HBE.out HZ.out HQ0.out (HQ1.out.trans HQ2.out).fr (HK1.out.mono (fun k _ hk => by have := HK3.out k hk; have := HQ1.out.size; have := HZ.out; omega)) (HK2.out.tslc (fun k _ hk => by have := HK3.out k hk; have := HQ1.out.size; have := HZ.out; omega) (fun k hk => by have := HQ1.out.size; have := HZ.out; omega)))
    change bodyPost _ _ _ _ _ (put9 w2 (B + 1) (.int .i64 h.k) (.string h.nm) (.int .i64 h.n) (.int .i64 h.tk) (.int .i64 h.tn) (.slice q1 l1 e1) (.slice q2 l2 e2) (.int .i64 h.fr) (.int .i64 h.en))
    clear z0 z1 z2 z3 z4 z5 z6 z7 z8 t0 t1 t2 t3 t4 t5 t6 t7 t8
    generalize put9 w2 (B + 1) (.int .i64 h.k) (.string h.nm) (.int .i64 h.n) (.int .i64 h.tk) (.int .i64 h.tn) (.slice q1 l1 e1) (.slice q2 l2 e2) (.int .i64 h.fr) (.int .i64 h.en) = wf at *
    obtain ⟨⟨x0, x1, x2, x3, x4, x5, x6, x7, x8⟩, _⟩ := block9 hbf
    clear hbf
    refine bodyPost_ret (by simp [results, Tryd.results26, go_sem, x0, x1, x2, x3, x4, x5, x6, x7, x8]; rfl) rfl ?_
    rw [HE.out]
    exact HFIN.out
  case true =>
    have HE0 : Hid (fin = if refA1 [] [] g gs h ps then (g, gs) else (h, ps)) := by have := HRS.out; rw [hr] at this; exact this
    have HAL2 := Lib.hid (HAL.out hr)
    clear hr HRS HAL x0 x1 x2 x3 x4 x5 x6 x7 x8
    go_upto_region 3 with fail
    go_wp2_with (at_builtin; go_must (refine wpList_append_row w1 rfl (.const (.slice none 0 0)) (.tmp 13) 40 rfl 9 _ 1 16 elemStr (.slice none 0 0) 0 [] rfl (World.ownsRow_nil _ _ _ _) lo ln lc (l.map Value.string) rfl ?c0 ?c1 ?c2 ?c3 ?c4 ?_))
    case c0 => rw [List.length_map, HLN.out]; omega
    case c1 =>
      intro j u hu
      rw [List.getElem?_map] at hu
      cases hj : l[j]? with
      | none => rw [hj] at hu; cases hu
      | some s =>
        rw [hj] at hu
        cases hu
        obtain ⟨b, off, rfl, _, hc⟩ := (HSL.out.stay HQ1.out) j s hj
        exact ⟨_, rfl, by simpa [Addr.add_lit] using hc⟩
    case c2 => intro u hu; obtain ⟨z, _, rfl⟩ := List.mem_map.1 hu; rfl
    case c3 => unfold maxLen; omega
    case c4 => omega
    intro o' c' w2 hown hf2 hob _
    have hq2 : Quiet0 w1 w2 := hf2.mono (fun k _ h => by cases h)
    try simp only [Nat.zero_add, List.nil_append] at hown
    try simp only [Nat.zero_add] at hob
    try simp only [Nat.zero_add]
    have hst : StrT (fun k => k = w1.heap.size) w2 o' l := strT_own (by rw [HLN.out]; exact hown) (fun g hg => by
      rw [HLN.out] at hg
      rcases hob with h | h
      · rw [hg] at h; cases h
      · rw [hg] at h; injection h)
    have hcap : ln ≤ c' := own_cap hown
    obtain ⟨W4, hW4⟩ : ∃ W4, W4 = (w2.alloc (.cells #[.slice o' ln c'] 40)).alloc (.cells #[.func (.func 52) #[] #[.pointer (some ⟨w2.heap.size, 0, none⟩), .pointer (some ⟨w2.heap.size + 1, 0, none⟩)]] 73) := ⟨_, rfl⟩
    have hq24 : Quiet0 w2 W4 := by rw [hW4]; exact (Quiet0.alloc _ _).trans (Quiet0.alloc _ _)
    have hn4 : W4.heap[w2.heap.size]? = some (.cells #[.slice o' ln c'] 40 (0, 0)) := by
      rw [hW4, Below.heap_alloc _ _ _ (by simp)]; exact heap_alloc_new w2 _
    have hr4 : RBox W4 (w2.heap.size + 1) w2.heap.size := by
      show W4.heap[_]? = _
      rw [hW4]
      have := heap_alloc_new (w2.alloc (.cells #[.slice o' ln c'] 40)) (.cells #[.func (.func 52) #[] #[.pointer (some ⟨w2.heap.size, 0, none⟩), .pointer (some ⟨w2.heap.size + 1, 0, none⟩)]] 73)
      simpa using this
    have hz4 : W4.heap.size = w2.heap.size + 2 := by rw [hW4]; simp
    have HNB : Hid (NBox (fun k => k = w1.heap.size) W4 w2.heap.size l) := ⟨o', c', by rw [HLN.out]; exact hn4, hst.stay hq24, by rw [HLN.out]; exact hcap⟩
    have HRB := Lib.hid hr4
    have HQ04 : Hid (Quiet0 W0 W4) := HQ1.out.trans (hq2.trans hq24)
    have hwz := HZ.out
    have hz12 := hq2.size
    have hz01 := HQ1.out.size
    have HNG : Hid (l = [] ∨ w1.heap.size < w2.heap.size) := by
      cases l with
      | nil => exact .inl rfl
      | cons a r =>
        obtain ⟨b, off, _, hb, hc⟩ := hst 0 a rfl
        exact .inr (hb ▸ World.block_lt_of_cell? w2 _ hc)
    have HRUN : Hid (∀ (Wc wc W : World) (T : Nat → Prop) (q1 : Option Addr) (e1 : Nat) (q2 : Option Addr) (e2 : Nat), SlcIn T wc q1 l1 h.tp → TO T wc (fun k => Wc.heap.size ≤ k ∧ k < wc.heap.size ∧ ¬ T k) q2 l2 ps → (∀ k, T k → Wc.heap.size ≤ k ∧ k < wc.heap.size) → w2.heap.size + 2 ≤ Wc.heap.size → Quiet0 wc W → Quiet0 W4 W →
        Calls Tryd.prog 52 #[tmv h q1 l1 e1 q2 l2 e2, .slice none 0 0, .slice none 0 0, .pointer (some ⟨w2.heap.size, 0, none⟩), .pointer (some ⟨w2.heap.size + 1, 0, none⟩)] W (RunQ Wc.heap.size wc.heap.size w2.heap.size g gs q1 l1 e1 q2 l2 e2 W)) := fun Wc wc W T q1 e1 q2 e2 k1 k2 k3 hsz hqw hq4 => by
      obtain ⟨ro, rc, nb1, nb2, nb3⟩ := HNB.out
      refine HRUN0.out wc W _ _ _ T (fun k => k = w1.heap.size ∧ w1.heap.size < w2.heap.size) q1 e1 q2 e2 (HQ0.out.trans (HQ04.out.trans hq4)) (by omega) (by omega) (by omega) (by omega) (fun k hk => by omega) k1 k2 k3 (blk_after hq4 HRB.out) ?_ hqw
      refine ⟨ro, rc, blk_after hq4 nb1, ?_, nb3⟩
      have hst4 := nb2.stay hq4
      rcases HNG.out with h | h
      · rw [h]; exact StrT.nil _ _ _
      · exact hst4.fr (Fr.refl (fun _ => False) W) (fun k _ hk => ⟨⟨hk, h⟩, fun h => h⟩)
    go_upto_region 6 with fail
    change Code.wp _ _ _ _ ((w2.alloc (.cells #[.slice o' ln c'] 40)).alloc (.cells #[.func (.func 52) #[] #[.pointer (some ⟨w2.heap.size, 0, none⟩), .pointer (some ⟨w2.heap.size + 1, 0, none⟩)]] 73))
    rw [← hW4]
    have hn2 : B + 2 ≤ w2.heap.size := by omega
    clear hW4 hown hf2 hob hq2 hst hcap hq24 hn4 hr4 hz12 hz01 HNG HNB HRUN0
    generalize w2.heap.size = nb at *
    have HZ4 := Lib.hid hz4
    clear hz4
    have HC4 := Lib.hid (fun (W : World) (hq : Quiet0 W4 W) => HCO.out W (HQ04.out.trans hq))
    have HCB : Hid (∀ W, Fr (fun k => nb + 2 ≤ k ∨ k = nb) W4 W → W.cell? ⟨nb + 1, 0, none⟩ = some (.func (.func 52) #[] #[.pointer (some ⟨nb, 0, none⟩), .pointer (some ⟨nb + 1, 0, none⟩)]) ∧ (W.cell? ⟨B, 0, none⟩ = some (.int .i64 h.k) ∧ W.cell? ⟨B, 1, none⟩ = some (.string h.nm) ∧ W.cell? ⟨B, 2, none⟩ = some (.int .i64 h.n) ∧ W.cell? ⟨B, 3, none⟩ = some (.int .i64 h.tk) ∧ W.cell? ⟨B, 4, none⟩ = some (.int .i64 h.tn) ∧ W.cell? ⟨B, 5, none⟩ = some (.slice o1 l1 c1) ∧ W.cell? ⟨B, 6, none⟩ = some (.slice o2 l2 c2) ∧ W.cell? ⟨B, 7, none⟩ = some (.int .i64 h.fr) ∧ W.cell? ⟨B, 8, none⟩ = some (.int .i64 h.en))) := fun W hW => ⟨cell_of_one (blk_fr hW (by omega) HRB.out), (cells9_block (blk_after HQ04.out HB0.out)).fr hW (by omega)⟩
    unfold RunQ tmv at HRUN
    go_cut [7] (fun v wx => RnM w W4 g gs l1 l2 v wx)
    case first =>
      clear HQ1 HE0 HAL2 HSL HLN HB1 HCO
      have hqc := Quiet0.refl W4
      go_region_held3 (fun W => W.cell? ⟨nb + 1, 0, none⟩ = some (.func (.func 52) #[] #[.pointer (some ⟨nb, 0, none⟩), .pointer (some ⟨nb + 1, 0, none⟩)]) ∧ (W.cell? ⟨B, 0, none⟩ = some (.int .i64 h.k) ∧ W.cell? ⟨B, 1, none⟩ = some (.string h.nm) ∧ W.cell? ⟨B, 2, none⟩ = some (.int .i64 h.n) ∧ W.cell? ⟨B, 3, none⟩ = some (.int .i64 h.tk) ∧ W.cell? ⟨B, 4, none⟩ = some (.int .i64 h.tn) ∧ W.cell? ⟨B, 5, none⟩ = some (.slice o1 l1 c1) ∧ W.cell? ⟨B, 6, none⟩ = some (.slice o2 l2 c2) ∧ W.cell? ⟨B, 7, none⟩ = some (.int .i64 h.fr) ∧ W.cell? ⟨B, 8, none⟩ = some (.int .i64 h.en)))
        (first
          | ((have hzz := z0); (clear hzz); (with_reducible refine HCB.out _ ?_); (with_reducible refine ren_keep9 hf4 ?hk8 ?hk9); (case hk8 => (have hz4 := HZ4.out; first | omega | (simp only [rc_asz, rc_dsz]; omega))); (case hk9 => (have hz4 := HZ4.out; first | omega | (simp only [rc_asz, rc_dsz]; omega))))
          | ((with_reducible refine HCB.out _ ?_); (with_reducible refine ren_keep hf4 ?hk8); (case hk8 => (have hz4 := HZ4.out; first | omega | (simp only [rc_asz, rc_dsz]; omega))))
          | ((with_reducible refine HCB.out _ ?_); (with_reducible refine ren_keepa hf4 ?hk8); (case hk8 => (have hz4 := HZ4.out; first | omega | (simp only [rc_dsz]; omega))))
          | ((with_reducible refine HCB.out _ ?_); (repeat (first | with_reducible exact Quiet0.fr hqc | with_reducible exact Fr.refl _ _ | with_reducible refine Fr.trans ?_ (Fr.alloc _ _ _) | with_reducible refine Fr.trans ?_ (Fr.drew _ _) | fail)); done)
          | fail)
        (first
          | (go_at_call 51; (with_reducible refine Calls.mono (HC4.out _ ?hq) ?_); (case hq => (repeat (first | with_reducible exact hqc | with_reducible exact Quiet0.refl _ | with_reducible refine Quiet0.trans ?_ (Quiet0.alloc _ _) | with_reducible refine Quiet0.trans ?_ (Quiet0.drew _) | fail))); rintro x wc ⟨q1, e1, q2, e2, T, rfl, hk1, hk2, hk3, hqx⟩; (first | (with_reducible have hbz := box_after hqx) | (with_reducible have hbz := box_after_drew hqx) | skip); have hszc := Fr.size hqx; (try simp only [rc_asz, rc_dsz] at hszc); (refine with_q (w0 := W4) ?hq2 hqx ?_); (case hq2 => (repeat (first | with_reducible exact hqc | with_reducible exact Quiet0.refl _ | with_reducible refine Quiet0.trans ?_ (Quiet0.alloc _ _) | with_reducible refine Quiet0.trans ?_ (Quiet0.drew _) | fail))); intro hqc)
          | (go_at_call 52; (with_reducible refine Calls.mono (HRUN.out _ _ _ _ _ _ _ _ hk1 hk2 hk3 ?hs ?hq1 ?hq) ?_); (case hs => (have hz4 := HZ4.out; first | omega | (simp only [rc_asz, rc_dsz]; omega))); (case hq1 => (repeat (first | with_reducible exact Quiet0.refl _ | with_reducible refine Quiet0.trans ?_ (Quiet0.alloc _ _) | with_reducible refine Quiet0.trans ?_ (Quiet0.drew _) | fail))); (case hq => (repeat (first | with_reducible exact hqc | with_reducible exact Quiet0.refl _ | with_reducible refine Quiet0.trans ?_ (Quiet0.alloc _ _) | with_reducible refine Quiet0.trans ?_ (Quiet0.drew _) | fail))); rintro x w3 ⟨rfl, hk4, hf3⟩; have hf4 := Fr.trans (Quiet0.fr (by (repeat (first | with_reducible exact hqc | with_reducible exact Quiet0.refl _ | with_reducible refine Quiet0.trans ?_ (Quiet0.alloc _ _) | with_reducible refine Quiet0.trans ?_ (Quiet0.drew _) | fail))) : Fr _ W4 _) hf3; (refine with_old (ren_old hf3 ?hb1 ?hb2 hbz) ?_); (case hb1 => (have hz4 := HZ4.out; first | omega | (simp only [rc_asz, rc_dsz]; omega))); (case hb2 => (have hz4 := HZ4.out; first | omega | (simp only [rc_asz, rc_dsz]; omega))); intro hbz2; obtain ⟨⟨z0, z1, z2, z3, z4, z5, z6, z7, z8⟩, t0, t1, t2, t3, t4, t5, t6, t7, t8⟩ := block9 hbz2)
          | (go_at_call 52; (with_reducible refine Calls.mono (HRUN.out _ _ _ _ _ _ _ _ hk1 hk2 hk3 ?hs ?hq1 ?hq) ?_); (case hs => (have hz4 := HZ4.out; first | omega | (simp only [rc_dsz]; omega))); (case hq1 => (repeat (first | with_reducible exact Quiet0.refl _ | with_reducible refine Quiet0.trans ?_ (Quiet0.alloc _ _) | with_reducible refine Quiet0.trans ?_ (Quiet0.drew _) | fail))); (case hq => (repeat (first | with_reducible exact hqc | with_reducible exact Quiet0.refl _ | with_reducible refine Quiet0.trans ?_ (Quiet0.alloc _ _) | with_reducible refine Quiet0.trans ?_ (Quiet0.drew _) | fail))); rintro x w3 ⟨rfl, hk4, hf3⟩; have hf4 := Fr.trans (Quiet0.fr (by (repeat (first | with_reducible exact hqc | with_reducible exact Quiet0.refl _ | with_reducible refine Quiet0.trans ?_ (Quiet0.alloc _ _) | with_reducible refine Quiet0.trans ?_ (Quiet0.drew _) | fail))) : Fr _ W4 _) hf3; (refine with_old (ren_new hf3 ?hb1 ?hb2) ?_); (case hb1 => (have hz4 := HZ4.out; first | omega | (simp only [rc_asz, rc_dsz]; omega))); (case hb2 => (have hz4 := HZ4.out; first | omega | (simp only [rc_asz, rc_dsz]; omega))); intro hbz2; obtain ⟨⟨z0, z1, z2, z3, z4, z5, z6, z7, z8⟩, t0, t1, t2, t3, t4, t5, t6, t7, t8⟩ := block9 hbz2)
          | (go_at_call 52; (with_reducible refine Calls.mono (HRUN.out _ _ _ _ _ _ _ _ hk1 hk2 hk3 ?hs ?hq1 ?hq) ?_); (case hs => (have hz4 := HZ4.out; first | omega | (simp only [rc_dsz]; omega))); (case hq1 => (repeat (first | with_reducible exact Quiet0.refl _ | with_reducible refine Quiet0.trans ?_ (Quiet0.alloc _ _) | with_reducible refine Quiet0.trans ?_ (Quiet0.drew _) | fail))); (case hq => (repeat (first | with_reducible exact hqc | with_reducible exact Quiet0.refl _ | with_reducible refine Quiet0.trans ?_ (Quiet0.alloc _ _) | with_reducible refine Quiet0.trans ?_ (Quiet0.drew _) | fail))); rintro x w3 ⟨rfl, hk4, hf3⟩; have hf4 := Fr.trans (Quiet0.fr (by (repeat (first | with_reducible exact hqc | with_reducible exact Quiet0.refl _ | with_reducible refine Quiet0.trans ?_ (Quiet0.alloc _ _) | with_reducible refine Quiet0.trans ?_ (Quiet0.drew _) | fail))) : Fr _ W4 _) hf3)
          | fail)
      all_goals
        go_wp2_with fail
        go_meet
        have hz4 := HZ4.out
        have hwb := HBE.out
        first
          | (with_reducible refine rnm_new hf4 ?_ ?_ hk4 <;> first | omega | (simp only [rc_dsz]; omega))
          | (refine rnm_old hf4 ?_ ?_ hk4 hbz2 ?_ ?_ ?_ <;> first | omega | (simp only [rc_asz, rc_dsz]; omega))
          | fail
    case rest =>
      rename World => wx
      obtain ⟨b, q1, e1, q2, e2, rfl, hbb, hbW, hk1, hk2, hfx⟩ := hcut
      have HBB := Lib.hid hbb
      have HK1 := Lib.hid hk1
      have HK2 := Lib.hid hk2
      have hqx : Quiet0 W0 wx := (HQ04.out.fr.trans hfx).mono (fun k hk h => by have := HZ.out; have := HBE.out; omega)
      have HQX := Lib.hid hqx
      have HA := Lib.hid (HAL2.out wx _ q1 l1 e1 q2 l2 e2 hk1 hk2 hqx)
      clear hbb hk1 hk2 hfx hqx HRUN HCB HC4 HAL2
      obtain ⟨⟨x0, x1, x2, x3, x4, x5, x6, x7, x8⟩, _⟩ := block9 (blk_after HQX.out HB0.out)
      obtain ⟨⟨u0, u1, u2, u3, u4, u5, u6, u7, u8⟩, _⟩ := block9 HBB.out
      generalize refA1 [] [] g gs h ps = ra at *
      go_wp2_with fail
      refine HA.out.mono ?_; rintro x w5 ⟨rfl, hq5⟩
      have HQ5 := Lib.hid (HQX.out.trans hq5)
      have HB5 := Lib.hid (blk_after hq5 HBB.out)
      have HK15 := Lib.hid (HK1.out.stay hq5)
      have HK25 := Lib.hid (HK2.out.stay hq5)
      clear hq5 x0 x1 x2 x3 x4 x5 x6 x7 x8 u0 u1 u2 u3 u4 u5 u6 u7 u8
      cases ra
      case true =>
        have HE : Hid (fin = (g, gs)) := by have := HE0.out; show fin = (g, gs); simpa using this
        obtain ⟨⟨u0, u1, u2, u3, u4, u5, u6, u7, u8⟩, _⟩ := block9 HB5.out
        have HZ5 := Lib.hid (blk_after HQ5.out HB1.out)
        obtain ⟨⟨z0, z1, z2, z3, z4, z5, z6, z7, z8⟩, t0, t1, t2, t3, t4, t5, t6, t7, t8⟩ := block9 HZ5.out
        go_wp2_with fail
        have hbf := put9_block (a0 := .int .i64 g.k) (a1 := .string g.nm) (a2 := .int .i64 g.n) (a3 := .int .i64 g.tk) (a4 := .int .i64 g.tn) (a5 := .slice q1 l1 e1) (a6 := .slice q2 l2 e2) (a7 := .int .i64 g.fr) (a8 := .int .i64 g.en) HZ5.out
        have HFIN := Lib.hid (ren_fin (g := g) (gs := gs) (l1 := l1) (e1 := e1) (l2 := l2) (e2 := e2) (q1 := q1) (q2 := q2) HBE.out HZ.out HQ0.out HQ5.out.fr (by rw [← HBE.out]; exact HK15.out) (by rw [← HBE.out]; exact HK25.out))
        change bodyPost _ _ _ _ _ (put9 w5 (B + 1) (.int .i64 g.k) (.string g.nm) (.int .i64 g.n) (.int .i64 g.tk) (.int .i64 g.tn) (.slice q1 l1 e1) (.slice q2 l2 e2) (.int .i64 g.fr) (.int .i64 g.en))
        clear z0 z1 z2 z3 z4 z5 z6 z7 z8 t0 t1 t2 t3 t4 t5 t6 t7 t8 u0 u1 u2 u3 u4 u5 u6 u7 u8
        generalize put9 w5 (B + 1) (.int .i64 g.k) (.string g.nm) (.int .i64 g.n) (.int .i64 g.tk) (.int .i64 g.tn) (.slice q1 l1 e1) (.slice q2 l2 e2) (.int .i64 g.fr) (.int .i64 g.en) = wf at *
        obtain ⟨⟨x0, x1, x2, x3, x4, x5, x6, x7, x8⟩, _⟩ := block9 hbf
        clear hbf
        refine bodyPost_ret (by simp [results, Tryd.results26, go_sem, x0, x1, x2, x3, x4, x5, x6, x7, x8]; rfl) rfl ?_
        rw [HE.out]
        exact HFIN.out
      case false =>
        have HE : Hid (fin = (h, ps)) := by have := HE0.out; show fin = (h, ps); simpa using this
        obtain ⟨⟨x0, x1, x2, x3, x4, x5, x6, x7, x8⟩, _⟩ := block9 (blk_after HQ5.out HB0.out)
        go_wp2_with fail
        refine (HCO.out _ HQ5.out).mono ?_; rintro x w6 ⟨p1, d1, p2, d2, T, rfl, hk1, hk2, hk3, hq6⟩
        have HP1 := Lib.hid hk1
        have HP2 := Lib.hid hk2
        have HP3 := Lib.hid hk3
        have HQ6 := Lib.hid (HQ5.out.trans hq6)
        have HZ6 := Lib.hid (blk_after (HQ5.out.trans hq6) HB1.out)
        clear hk1 hk2 hk3 hq6 x0 x1 x2 x3 x4 x5 x6 x7 x8
        obtain ⟨⟨z0, z1, z2, z3, z4, z5, z6, z7, z8⟩, t0, t1, t2, t3, t4, t5, t6, t7, t8⟩ := block9 HZ6.out
        go_wp2_with fail
        have hbf := put9_block (a0 := .int .i64 h.k) (a1 := .string h.nm) (a2 := .int .i64 h.n) (a3 := .int .i64 h.tk) (a4 := .int .i64 h.tn) (a5 := .slice p1 l1 d1) (a6 := .slice p2 l2 d2) (a7 := .int .i64 h.fr) (a8 := .int .i64 h.en) HZ6.out
        have HFIN := Lib.hid (ren_fin (g := h) (gs := ps) (l1 := l1) (e1 := d1) (l2 := l2) (e2 := d2) (q1 := p1) (q2 := p2) HBE.out HZ.out HQ0.out HQ6.out.fr (HP1.out.mono (fun k _ hk => by have := HP3.out k hk; have := HQ5.out.size; have := HZ.out; omega)) (HP2.out.tslc (fun k _ hk => by have := HP3.out k hk; have := HQ5.out.size; have := HZ.out; omega) (fun k hk => by have := HQ5.out.size; have := HZ.out; omega)))
        change bodyPost _ _ _ _ _ (put9 w6 (B + 1) (.int .i64 h.k) (.string h.nm) (.int .i64 h.n) (.int .i64 h.tk) (.int .i64 h.tn) (.slice p1 l1 d1) (.slice p2 l2 d2) (.int .i64 h.fr) (.int .i64 h.en))
        clear z0 z1 z2 z3 z4 z5 z6 z7 z8 t0 t1 t2 t3 t4 t5 t6 t7 t8
        generalize put9 w6 (B + 1) (.int .i64 h.k) (.string h.nm) (.int .i64 h.n) (.int .i64 h.tk) (.int .i64 h.tn) (.slice p1 l1 d1) (.slice p2 l2 d2) (.int .i64 h.fr) (.int .i64 h.en) = wf at *
        obtain ⟨⟨x0, x1, x2, x3, x4, x5, x6, x7, x8⟩, _⟩ := block9 hbf
        clear hbf
        refine bodyPost_ret (by simp [results, Tryd.results26, go_sem, x0, x1, x2, x3, x4, x5, x6, x7, x8]; rfl) rfl ?_
        rw [HE.out]
        exact HFIN.out
end Sc
end Go.Proofs.YtnfodiedalhlhaaDoor
end
