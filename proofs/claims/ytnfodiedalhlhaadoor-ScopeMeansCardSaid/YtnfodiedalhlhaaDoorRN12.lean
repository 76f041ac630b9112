/-
  Texts laid together (ScWalk, St1): laws and walks, with their conditions in their statements.
-/
import Derived.Test.YtnfodiedalhlhaaDoorRN11
section
namespace Go.Proofs.YtnfodiedalhlhaaDoor
open Go.RowKit Go.Shelf
namespace Sc
section
variable {σ : Type} {F : Nat} {lb : Array Value} {R : Nat → Prop} {L0 : Nat} {stp : σ → Nd → List ByteArray → σ} {out : Nd → List ByteArray → Nd} {J : Nat → σ → (Nat → Prop) → World → Prop}
def WkI (R : Nat → Prop) (stp : σ → Nd → List ByteArray → σ) (out : Nd → List ByteArray → Nd) (J : Nat → σ → (Nat → Prop) → World → Prop) (b : Nat) (D : Nat → Prop) (e : List ByteArray) (bk : Int) (nm : ByteArray) (ps : To) (FS : σ) (FP : To) (W0 : World) (l2 : Nat) (v t : Value) (wr : World) : Prop :=
  ∃ (i : Nat) (f : To) (xs : List Value) (vo : Option Addr) (vc : Nat) (E : Nat → Nat → Prop) (s : σ) (D' : Nat → Prop), t = .int .i64 i ∧ i ≤ l2 ∧ v = .slice vo i vc ∧ f.length = i ∧ (wk stp out bk nm i s e (ps.drop i)).1 = FS ∧ f.app (wk stp out bk nm i s e (ps.drop i)).2 = FP ∧
    TmRowO R wr W0.heap.size (.slice vo i vc) f xs E ∧ J (b + (ps.drop i).size) s D' wr ∧ Fr D W0 wr ∧ (∀ k, D' k → D k ∨ W0.heap.size ≤ k) ∧ (∀ k, D' k → (Value.slice vo i vc).ownBlock ≠ some k ∧ ∀ j, ¬ E j k)
set_option maxRecDepth 100000 in
set_option maxHeartbeats 8000000 in
theorem walkT_any (eg : ∀ args w, (callFunc F args).run Tryd.prog w = .ok (.enter F args) w) (hK : DoW F lb R L0 stp out J) (hR : ∀ k, R k → k < L0) (hout : ∀ h e, (out h e).tp = h.tp) (h : Nd) (ps : To) : TWk F lb R stp out J h ps := by
  refine To.ind' (T := TWk F lb R stp out J) ?_ h ps
  intro h ps ih b s D W T e o1 l1 c1 o2 l2 c2 no n c hJ hN hnc hT hz hs1 hs hv hav
  have HK := Lib.hid hK
  have HS := Lib.hid hs
  have HS1 := Lib.hid hs1
  have IH := Lib.hid ih
  have HN := Lib.hid hN
  have HAV := Lib.hid hav
  have HTD := Lib.hid hT
  have HNC := Lib.hid hnc
  have hll := To.length_le ps
  rw [← hs.1] at hll
  have HL := Lib.hid hs.1
  have hbig := hK.big _ _ _ _ hJ
  have HBIG := Lib.hid hbig
  have hown := hK.own _ _ _ _ hJ
  have HOWN := Lib.hid hown
  obtain ⟨W0, hW0⟩ : ∃ W0, W0 = (W.alloc (.cells (cells9 h o1 l1 c1 o2 l2 c2) 30)).alloc (.cells zero9 30) := ⟨_, rfl⟩
  have HQ0 : Hid (Quiet0 W W0) := by rw [hW0]; exact (Quiet0.alloc _ _).trans (Quiet0.alloc _ _)
  have hz0 : W.heap.size + 2 = W0.heap.size := by rw [hW0]; simp
  have HZ0 := Lib.hid hz0
  have HB0 : Hid (W0.heap[W.heap.size]? = some (.cells (cells9 h o1 l1 c1 o2 l2 c2) 30 (0, 0))) := by
    show _ = _; rw [hW0, Below.heap_alloc _ _ _ (by simp)]; exact heap_alloc_new W _
  have HB1 : Hid (W0.heap[W.heap.size + 1]? = some (.cells zero9 30 (0, 0))) := by
    show _ = _; rw [hW0]
    have := heap_alloc_new (W.alloc (.cells (cells9 h o1 l1 c1 o2 l2 c2) 30)) (.cells zero9 30)
    simpa using this
  have HJ0 : Hid (J (b + (ps.size + 1)) s D W0) := hK.stay _ _ _ _ _ hJ (HQ0.out.mono (fun _ _ h => h.elim))
  clear hs hs1 ih hN hav hJ hT hK hnc hown hbig hz0
  by_cases hk : h.k = 1
  · have hk' : (h.k == 1) = true := by simp [hk]
    have HWK := Lib.hid (wk1_var stp out s e h ps hk)
    have hps : ps = .nil := hv hk
    have HL0 : Hid (l2 = 0) := by have := HL.out; rw [hps] at this; exact this
    have HPS := Lib.hid hps
    have HC := Lib.hid (HK.out.call (b + ps.size) s D W0 T e h o1 l1 c1 o2 l2 c2 no n c HJ0.out (HN.out.stay HQ0.out) (by omega) (HS1.out.stay HQ0.out) hk)
    have HB0' : Hid (Cells9 W0 W.heap.size 0 h o1 l1 c1 o2 l2 c2) := cells9_block HB0.out
    clear hk hps hv
    unfold tmv at HC ⊢
    go_enter Tryd.func71, Tryd.ntmps71
    go_upto_region 1 with fail
    rw [← hW0]
    clear hW0
    generalize hB : W.heap.size = B at *
    have HBE := Lib.hid hB
    clear hB
    obtain ⟨a0, a1, a2, a3, a4, a5, a6, a7, a8⟩ := HB0'.out
    go_wp2_with fail
    refine HC.out.mono ?_; rintro x w1 ⟨rfl, D1, hj1, hf1, hd1⟩
    unfold tmv
    have hz0 := HZ0.out
    have hb1 := blk_fr hf1 (fun h => by have := (HOWN.out _ h).1; have := HBE.out; omega) HB1.out
    obtain ⟨⟨z0, z1, z2, z3, z4, z5, z6, z7, z8⟩, t0, t1, t2, t3, t4, t5, t6, t7, t8⟩ := block9 hb1
    have HB2 := Lib.hid hb1
    have HJ1 := Lib.hid hj1
    have HF1 := Lib.hid hf1
    have HD1 := Lib.hid hd1
    clear hb1 hj1 hf1 hd1 a0 a1 a2 a3 a4 a5 a6 a7 a8
    have HH : Hid ((wk1 stp out s e h ps).2.1 = out h e ∧ (wk1 stp out s e h ps).1 = stp s h e ∧ (wk1 stp out s e h ps).2.2 = ps) := by show _ ∧ _ ∧ _; rw [HWK.out]; exact ⟨rfl, rfl, rfl⟩
    generalize hho : out h e = ho at *
    have HHO := Lib.hid hho
    clear hho
    go_wp2_with fail
    have hff := put9_fr w1 (B + 1) (.int .i64 ho.k) (.string ho.nm) (.int .i64 ho.n) (.int .i64 ho.tk) (.int .i64 ho.tn) (.slice o1 l1 c1) (.slice o2 l2 c2) (.int .i64 ho.fr) (.int .i64 ho.en)
    have hbf := put9_block (a0 := .int .i64 ho.k) (a1 := .string ho.nm) (a2 := .int .i64 ho.n) (a3 := .int .i64 ho.tk) (a4 := .int .i64 ho.tn) (a5 := .slice o1 l1 c1) (a6 := .slice o2 l2 c2) (a7 := .int .i64 ho.fr) (a8 := .int .i64 ho.en) HB2.out
    change bodyPost _ _ _ _ _ (put9 w1 (B + 1) (.int .i64 ho.k) (.string ho.nm) (.int .i64 ho.n) (.int .i64 ho.tk) (.int .i64 ho.tn) (.slice o1 l1 c1) (.slice o2 l2 c2) (.int .i64 ho.fr) (.int .i64 ho.en))
    clear z0 z1 z2 z3 z4 z5 z6 z7 z8 t0 t1 t2 t3 t4 t5 t6 t7 t8
    generalize put9 w1 (B + 1) (.int .i64 ho.k) (.string ho.nm) (.int .i64 ho.n) (.int .i64 ho.tk) (.int .i64 ho.tn) (.slice o1 l1 c1) (.slice o2 l2 c2) (.int .i64 ho.fr) (.int .i64 ho.en) = wf at *
    obtain ⟨⟨x0, x1, x2, x3, x4, x5, x6, x7, x8⟩, _⟩ := block9 hbf
    have HFIN : Hid (WkQ R stp out J b s D e h ps o1 l1 c1 l2 W (.returned (tmv ho o1 l1 c1 o2 l2 c2)) wf) := by
      have hzz := HF1.out.size
      have hB := HBE.out
      have hD1 : ∀ k, D1 k → k ≠ B + 1 := fun k hk => by
        rcases HD1.out k hk with h | h
        · have := (HOWN.out k h).1; omega
        · omega
      refine ⟨o2, c2, D1, fun _ => False, by rw [HH.out.1, ← HHO.out], ?_, ?_, fun _ h => h.elim, ?_, ?_⟩
      · rw [HH.out.2.1]
        refine HK.out.stay _ _ _ _ _ (HK.out.weak _ b _ _ _ HJ1.out (by omega)) (hff.mono (fun k _ h => ⟨by have := HBIG.out; omega, fun hd => hD1 k hd h⟩))
      · rw [HH.out.2.2, HPS.out, HL0.out]; exact TO.nil _ _ _ _
      · exact ((HQ0.out.fr).trans HF1.out).trans' hff (fun k hk h => by omega)
      · intro k hk
        rcases HD1.out k hk with h | h
        · exact .inl h
        · exact .inr (by omega)
    clear hff hbf
    refine bodyPost_ret (by simp [results, Tryd.results71, go_sem, x0, x1, x2, x3, x4, x5, x6, x7, x8]; rfl) rfl ?_
    exact HFIN.out
  · have hk' : (h.k == 1) = false := by simp [hk]
    have HWK := Lib.hid (wk1_no stp out s e h ps hk)
    obtain ⟨FS, hFS⟩ : ∃ FS, (wk stp out h.k h.nm 0 s e ps).1 = FS := ⟨_, rfl⟩
    obtain ⟨FP, hFP⟩ : ∃ FP, (wk stp out h.k h.nm 0 s e ps).2 = FP := ⟨_, rfl⟩
    have HFS := Lib.hid hFS
    have HFP := Lib.hid hFP
    have HB0' : Hid (Cells9 W0 W.heap.size 0 h o1 l1 c1 o2 l2 c2) := cells9_block HB0.out
    have HJS : Hid (J (b + ps.size) s D W0) := HK.out.weak _ _ _ _ _ HJ0.out (by omega)
    clear hk hv hFS hFP
    unfold tmv
    go_enter Tryd.func71, Tryd.ntmps71
    go_upto_region 1 with fail
    rw [← hW0]
    clear hW0
    generalize hB : W.heap.size = B at *
    have HBE := Lib.hid hB
    clear hB
    obtain ⟨a0, a1, a2, a3, a4, a5, a6, a7, a8⟩ := HB0'.out
    go_wp2_with fail
    clear a0 a1 a2 a3 a4 a5 a6 a7 a8
    go_loopw [7, 21] (fun v t wr => WkI R stp out J b D e h.k h.nm ps FS FP W0 l2 v t wr) (fun _ t _ => l2 - (intOf t).toNat)
    case atStart => exact ⟨0, .nil, [], none, 0, fun _ _ => False, s, D, rfl, Nat.zero_le _, rfl, rfl, by rw [To.drop_zero]; exact HFS.out, by rw [To.drop_zero]; exact HFP.out, TmRowO.nil _ _ (fun k hk => by have := hR k hk; have := HBIG.out; have := HZ0.out; have := HBE.out; omega), by rw [To.drop_zero]; exact HJS.out, Fr.refl _ _, fun k hk => .inl hk, fun k _ => ⟨by simp [Value.ownBlock], fun _ h => h⟩⟩
    case round =>
      obtain ⟨i, f, xs, vo, vc, E, s', D', rfl, hi, rfl, hfl, hws, hwp, hrow, hj, hf, hd, hsep⟩ := hrel
      have HFL := Lib.hid hfl
      have HWS := Lib.hid hws
      have HWP := Lib.hid hwp
      have HROW := Lib.hid hrow
      have HJ := Lib.hid hj
      have HF := Lib.hid hf
      have HD := Lib.hid hd
      have HSEP := Lib.hid hsep
      have hwz := hf.size
      clear hfl hws hwp hrow hj hf hd hsep
      have HCB : Hid (Cells9 wr B 0 h o1 l1 c1 o2 l2 c2) := HB0'.out.fr HF.out (fun h => by have := (HOWN.out _ h).1; have := HBE.out; omega)
      by_cases hlt : i < l2
      · have hlt' : (i : Int) < l2 := by omega
        obtain ⟨b9, off, hd, qs, p1, m1, d1, p2, m2, d2, rfl, hdr, hg, hRb, hc9, hsl, hts⟩ := HS.out.nth hlt
        have hdR : ∀ k, R k → ¬ D k := fun k hk hd => (HOWN.out k hd).2 hk
        have hfw : Fr D W wr := HQ0.out.fr.trans HF.out
        have hc9w := hc9.fr hfw (hdR _ hRb)
        have hslw := hsl.fr hfw (T := R) (fun k _ hk => ⟨hk, hdR k hk⟩)
        have htsw := hts.fr hfw (T := R) (fun k _ hk => ⟨hk, hdR k hk⟩)
        have hsq := To.size_get ps i hd qs hg
        have hvq := allV_get ps i hd qs HAV.out hg
        have hds := To.size_drop ps i
        have hdz : (ps.drop i).size = qs.size + 1 + (ps.drop (i + 1)).size := by rw [hdr]; simp only [To.size] <;> omega
        obtain ⟨W1, hW1⟩ : ∃ W1, W1 = wr.alloc (.cells (cells9 hd p1 m1 d1 p2 m2 d2) 30) := ⟨_, rfl⟩
        have hq1 : Quiet0 wr W1 := by rw [hW1]; exact Quiet0.alloc _ _
        have HP1 : Hid (Cells9 W1 wr.heap.size 0 hd p1 m1 d1 p2 m2 d2) := by show Cells9 _ _ _ _ _ _ _ _ _ _; rw [hW1]; exact cells9_new _ _ _ _ _ _ _ _ _
        have HQ1 := Lib.hid hq1
        have HCB1 : Hid (Cells9 W1 B 0 h o1 l1 c1 (some ⟨b9, off, none⟩) l2 c2) := HCB.out.fr hq1 (fun h => h)
        have HSLW := Lib.hid (hslw.stay hq1)
        have HTSW := Lib.hid (htsw.stay hq1)
        have HHD := Lib.hid hdr
        have HDZ := Lib.hid hdz
        have HIH := Lib.hid (IH.out i hd qs hg)
        have hqsz : qs.size + 1 ≤ ps.size := by omega
        have HVQ := Lib.hid hvq
        have HEL : Hid ((envOf h.k h.nm i e).length ≤ n + 1) := by
          show _ ≤ _
          have := HN.out.1
          unfold envOf; split <;> simp <;> omega
        obtain ⟨a0, a1, a2, a3, a4, a5, a6, a7, a8⟩ := HCB.out
        obtain ⟨q0, q1, q2, q3, q4, q5, q6, q7, q8⟩ := hc9w
        have HFW := Lib.hid hfw
        clear hdr hg hsl hts hsq hvq hds hdz hc9 hslw htsw hq1 hdR hRb hfw
        go_upto_region 7 with fail
        change Code.wp _ _ _ _ (wr.alloc (.cells (cells9 hd p1 m1 d1 p2 m2 d2) 30))
        rw [← hW1]
        clear hW1
        generalize hpb : wr.heap.size = pb at *
        have HPB := Lib.hid hpb
        clear hpb a0 a1 a2 a3 a4 a5 a6 a7 a8 q0 q1 q2 q3 q4 q5 q6 q7 q8
        obtain ⟨a0, a1, a2, a3, a4, a5, a6, a7, a8⟩ := HCB1.out
        have HBN := Lib.hid (binds_any h.k i W1)
        go_wp2_with fail
        refine HBN.out.mono ?_; rintro x w2 ⟨rfl, rfl⟩
        go_upto_if 30 with fail
        go_cut [10] (fun v wx => ∃ (no' : Option Addr) (nc' : Nat), v = .slice no' (envOf h.k h.nm i e).length nc' ∧ NmIn (fun k => (T k ∧ k < B) ∨ pb ≤ k) wx no' (envOf h.k h.nm i e).length (envOf h.k h.nm i e) ∧ (envOf h.k h.nm i e).length ≤ nc' ∧ Quiet0 W1 wx)
        case first =>
          have HNW : Hid (NmIn (fun k => (T k ∧ k < B) ∨ pb ≤ k) W1 no n e) := (HN.out.fr (T' := fun k => (T k ∧ k < B) ∨ pb ≤ k) HFW.out (fun k hk ht => ⟨.inl ⟨ht, by have := HBE.out; omega⟩, HTD.out k ht⟩)).stay HQ1.out
          cases hb : bindsB h.k i
          case false =>
            have HE : Hid (envOf h.k h.nm i e = e) := by show _ = _; unfold envOf; rw [hb]; rfl
            have HNL := Lib.hid HN.out.1
            go_wp2_with fail
            go_meet
            rw [HE.out]
            exact ⟨no, c, by rw [← HNL.out], HNL.out ▸ HNW.out, by rw [← HNL.out]; exact HNC.out, Quiet0.refl _⟩
          case true =>
            have HE : Hid (envOf h.k h.nm i e = h.nm :: e) := by show _ = _; unfold envOf; rw [hb]; rfl
            have HNL := Lib.hid HN.out.1
            have hnone : no = none → n = 0 := fun hx => by have := HN.out; rw [hx] at this; exact this.none
            have HCL : Hid (∀ W, Calls Tryd.prog 55 #[.slice no n c] W fun e w' => e = .returned (.slice no n n) ∧ Quiet0 W w') := fun W => (clip_any no n c W HNC.out hnone).mono (fun e w' h => ⟨h.1, by rw [h.2]; exact Quiet0.refl _⟩)
            have HS1' : Hid (∀ W, Quiet0 W1 W → W.cell? ⟨B, 1, none⟩ = some (.string h.nm)) := fun W hq => (HCB1.out.fr hq (fun h => h)).2.1
            clear a0 a1 a2 a3 a4 a5 a6 a7 a8 hb hnone
            go_upto_region 9 with fail
            have hqc := Quiet0.refl W1
            go_region_held3 (fun w' => w'.cell? ⟨B, 1, none⟩ = some (.string h.nm))
              (((refine HS1'.out _ ?_); (repeat (first | with_reducible exact hqc | with_reducible exact Quiet0.refl _ | with_reducible refine Quiet0.trans ?_ (Quiet0.alloc _ _) | with_reducible refine Quiet0.trans ?_ (Quiet0.drew _) | fail))))
              (first
                | (go_at_call 55; (with_reducible refine Calls.mono (HCL.out _) ?_); rintro e wx ⟨rfl, hqx⟩; (refine with_q (w0 := W1) ?hq2 hqx ?_); (case hq2 => (repeat (first | with_reducible exact hqc | with_reducible exact Quiet0.refl _ | with_reducible refine Quiet0.trans ?_ (Quiet0.alloc _ _) | with_reducible refine Quiet0.trans ?_ (Quiet0.drew _) | fail))); intro hqc)
                | ((refine step_name _ rfl (.tmp 32) (.tmp 35) rfl (NmIn.stay HNW.out ?hq3) h.nm W1.heap.size rfl rfl ?hH (by omega) (Wb := W1) ?hqb ?_); (case hqb => (repeat (first | with_reducible exact hqc | with_reducible exact Quiet0.refl _ | with_reducible refine Quiet0.trans ?_ (Quiet0.alloc _ _) | with_reducible refine Quiet0.trans ?_ (Quiet0.drew _) | fail))); (case hq3 => (repeat (first | with_reducible exact hqc | with_reducible exact Quiet0.refl _ | with_reducible refine Quiet0.trans ?_ (Quiet0.alloc _ _) | with_reducible refine Quiet0.trans ?_ (Quiet0.drew _) | fail))); (case hH => (repeat (first | ((with_reducible refine blk_new _ _ _ _ ?hbe); (case hbe => (simp; done))) | with_reducible refine blk_after (Quiet0.alloc _ _) ?_ | with_reducible refine blk_drew ?_ | with_reducible refine blk_after hqx ?_ | fail))); intro g3 c3 w3 hN3 hc3 hq3; (refine with_q (w0 := W1) ?hq2 hq3 ?_); (case hq2 => (repeat (first | with_reducible exact hqc | with_reducible exact Quiet0.refl _ | with_reducible refine Quiet0.trans ?_ (Quiet0.alloc _ _) | with_reducible refine Quiet0.trans ?_ (Quiet0.drew _) | fail))); intro hqc)
                | ((refine step_name _ rfl (.tmp 32) (.tmp 35) rfl (NmIn.stay HNW.out ?hq3) h.nm wx.heap.size rfl rfl ?hH (by omega) (Wb := W1) ?hqb ?_); (case hqb => (repeat (first | with_reducible exact hqc | with_reducible exact Quiet0.refl _ | with_reducible refine Quiet0.trans ?_ (Quiet0.alloc _ _) | with_reducible refine Quiet0.trans ?_ (Quiet0.drew _) | fail))); (case hq3 => (repeat (first | with_reducible exact hqc | with_reducible exact Quiet0.refl _ | with_reducible refine Quiet0.trans ?_ (Quiet0.alloc _ _) | with_reducible refine Quiet0.trans ?_ (Quiet0.drew _) | fail))); (case hH => (repeat (first | ((with_reducible refine blk_new _ _ _ _ ?hbe); (case hbe => (simp; done))) | with_reducible refine blk_after (Quiet0.alloc _ _) ?_ | with_reducible refine blk_drew ?_ | with_reducible refine blk_after hqx ?_ | fail))); intro g3 c3 w3 hN3 hc3 hq3; (refine with_q (w0 := W1) ?hq2 hq3 ?_); (case hq2 => (repeat (first | with_reducible exact hqc | with_reducible exact Quiet0.refl _ | with_reducible refine Quiet0.trans ?_ (Quiet0.alloc _ _) | with_reducible refine Quiet0.trans ?_ (Quiet0.drew _) | fail))); intro hqc)
                | fail)
            all_goals
              go_wp2_with fail
              go_meet
              rw [HE.out, ← hN3.1]
              exact ⟨some ⟨g3, 0, none⟩, c3, rfl, hN3.fr (Fr.refl (fun _ => False) _) (fun k _ hk => ⟨.inr (by have := HQ1.out.size; have := HPB.out; have hk' : W1.heap.size ≤ k := hk; omega), fun h => h⟩), hc3, hqc⟩
        case rest =>
          rename World => wx
          obtain ⟨no2, nc2, rfl, hn2, hnc2, hqx⟩ := hcut
          have HQX := Lib.hid hqx
          have HQW := Lib.hid (HQ1.out.trans hqx)
          have HN2 := Lib.hid hn2
          have HNC2 := Lib.hid hnc2
          obtain ⟨q0, q1, q2, q3, q4, q5, q6, q7, q8⟩ := HP1.out.fr hqx (fun h => h)
          have hxz := HQW.out.size
          have hjx := HK.out.stay _ _ _ _ _ HJ.out (HQW.out.mono (fun _ _ h => h.elim))
          rw [HDZ.out, show b + (qs.size + 1 + (ps.drop (i + 1)).size) = (b + (ps.drop (i + 1)).size) + (qs.size + 1) from by omega] at hjx
          have HC := Lib.hid (HIH.out (b + (ps.drop (i + 1)).size) s' D' wx (fun k => (T k ∧ k < B) ∨ (pb ≤ k ∧ ¬ D' k)) (envOf h.k h.nm i e) p1 m1 d1 p2 m2 d2 no2 _ nc2 hjx
            (hn2.fr (Fr.refl (fun _ => False) _) (fun k hkl hk => by
              rcases hk with hk | hk
              · exact ⟨.inl hk, fun h => h⟩
              · exact ⟨.inr ⟨hk, fun hd => by have := (HK.out.own _ _ _ _ HJ.out k hd).1; have := HPB.out; omega⟩, fun h => h⟩)) hnc2
            (fun k hk hd => by
              rcases hk with ⟨h1, h2⟩ | ⟨h1, h2⟩
              · rcases HD.out k hd with h | h
                · exact HTD.out k h1 h
                · have := HZ0.out; omega
              · exact h2 hd)
            (by have := HEL.out; omega) (HSLW.out.stay hqx) (HTSW.out.stay hqx) HVQ.out.1 HVQ.out.2)
          unfold tmv at HC
          clear hqx hn2 hnc2 hjx a0 a1 a2 a3 a4 a5 a6 a7 a8 HBN
          go_wp2_with fail
          refine HC.out.mono ?_; rintro x w1 ⟨r2, e2, D2, E2, rfl, hj2, ht2, hE2, hf2, hdd2⟩
          unfold tmv
          have hws := HWS.out
          have hwp := HWP.out
          rw [HHD.out, wk_cons] at hws hwp
          have htp := wk1_tp stp out hout s' (envOf h.k h.nm i e) hd qs
          obtain ⟨qq, hqq⟩ : ∃ qq, wk1 stp out s' (envOf h.k h.nm i e) hd qs = qq := ⟨_, rfl⟩
          rw [hqq] at hws hwp hj2 ht2 htp ⊢
          obtain ⟨s2, hd2, qs2⟩ := qq
          have hws' : (wk stp out h.k h.nm (i + 1) s2 e (ps.drop (i + 1))).1 = FS := hws
          have hwp' : (f.app (.cons hd2 qs2 .nil)).app (wk stp out h.k h.nm (i + 1) s2 e (ps.drop (i + 1))).2 = FP := (to_app_assoc' f hd2 qs2 _).symm.trans hwp
          have htp' : hd2.tp = hd.tp := htp
          have HWS2 := Lib.hid hws'
          have HWP2 := Lib.hid hwp'
          have HTP := Lib.hid htp'
          have HJ2 : Hid (J (b + (ps.drop (i + 1)).size) s2 D2 w1) := hj2
          have HT2 : Hid (TO R w1 E2 r2 m2 qs2) := ht2
          have HE2 := Lib.hid hE2
          have HF2 := Lib.hid hf2
          have HD2 := Lib.hid hdd2
          have hDR : ∀ k, D' k → ¬ R k ∧ (∀ j, ¬ E j k) ∧ (Value.slice vo i vc).ownBlock ≠ some k := fun k hk => ⟨(HK.out.own _ _ _ _ HJ.out k hk).2, (HSEP.out k hk).2, (HSEP.out k hk).1⟩
          have HDR := Lib.hid hDR
          have HRX := Lib.hid (HROW.out.stay HQW.out)
          have HR1 := Lib.hid (HRX.out.fr HF2.out HDR.out)
          clear hws hwp hws' hwp' htp htp' hqq hj2 ht2 hE2 hf2 hdd2 hDR q0 q1 q2 q3 q4 q5 q6 q7 q8
          have hdsz := To.size_drop ps i
          have hdsz2 : i ≤ 200000 := by omega
          go_wp2_with (at_builtin; go_must (refine wpList_append_one w1 rfl (.tmp 37) (.tmp 42) 26 rfl 30 _ 9 112 elemTm (.slice vo i vc) i xs rfl (HFL.out ▸ HR1.out.own) (cells9 hd2 p1 m1 d1 r2 m2 e2) rfl rfl ?c1 ?c2 ?c3 ?_))
          case c1 => simp [Value.oneCell']
          case c2 => unfold maxLen; omega
          case c3 => omega
          intro g2 c' w4 ho hf4 hg2
          have hWx : W0.heap.size ≤ wx.heap.size := Nat.le_trans HF.out.size hxz
          have hz1 := HF2.out.size
          have hown1 : ∀ k, (Value.slice vo i vc).ownBlock = some k → W0.heap.size ≤ k ∧ k < wr.heap.size := fun k hk => ⟨(HROW.out.low k hk).1, (HROW.out.own.lt k hk).2⟩
          have hD2own : ∀ k, D2 k → (Value.slice vo i vc).ownBlock ≠ some k := fun k hk he => by
            rcases HD2.out k hk with h | h
            · exact (HSEP.out k h).1 he
            · have := (hown1 k he).2; omega
          have HR2 : Hid (TmRowO R w4 W0.heap.size (.slice (some ⟨g2, 0, none⟩) (i + 1) c') (f.app (.cons hd2 qs2 .nil)) (xs ++ (cells9 hd2 p1 m1 d1 r2 m2 e2).toList) (fun j k => (j < f.length ∧ E j k) ∨ (j = f.length ∧ E2 k))) := by
            show TmRowO _ _ _ _ _ _ _
            have hf' := HFL.out
            subst hf'
            exact rowO_snoc HRX.out hWx HF2.out HDR.out (by rw [HTP.out]; exact (HSLW.out.stay HQX.out).fr HF2.out (fun k _ hk => ⟨hk, fun hd => (HDR.out k hd).1 hk⟩)) HT2.out (fun k hk => ⟨(HE2.out k hk).1, (HE2.out k hk).2.1⟩) ho hf4 hg2
          have HJ4 : Hid (J (b + (ps.drop (i + 1)).size) s2 D2 w4) := HK.out.stay _ _ _ _ _ HJ2.out (hf4.mono (fun k _ h => ⟨by have := (hown1 k h).1; have := HBIG.out; have := HZ0.out; have := HBE.out; omega, fun hd => hD2own k hd h⟩))
          have HF4 : Hid (Fr D W0 w4) := (((HF.out.trans HQW.out.fr).trans' HF2.out (fun k hk hd => by
            rcases HD.out k hd with h | h
            · exact h
            · omega)).trans' hf4 (fun k hk h => by have := (hown1 k h).1; omega))
          have HD4 : Hid (∀ k, D2 k → D k ∨ W0.heap.size ≤ k) := fun k hk => by
            rcases HD2.out k hk with h | h
            · exact HD.out k h
            · exact .inr (by omega)
          have HSEP4 : Hid (∀ k, D2 k → (Value.slice (some ⟨g2, 0, none⟩) (i + 1) c').ownBlock ≠ some k ∧ ∀ j, ¬ ((j < f.length ∧ E j k) ∨ (j = f.length ∧ E2 k))) := fun k hk => by
            refine ⟨fun he => ?_, ?_⟩
            · simp [Value.ownBlock] at he
              subst he
              rcases hg2 with h | h
              · exact hD2own _ hk h
              · have := (HK.out.own _ _ _ _ HJ2.out _ hk).1; omega
            · rintro j (⟨_, h⟩ | ⟨_, h⟩)
              · rcases HD2.out k hk with h' | h'
                · exact (HSEP.out k h').2 j h
                · have := (HROW.out.sep j k h).2.1; omega
              · exact (HE2.out k h).2.2 hk
          have HL4 : Hid ((f.app (.cons hd2 qs2 .nil)).length = i + 1) := by show _ = _; rw [To.app_length, HFL.out]; rfl
          clear ho hf4 hg2 hown1 hD2own
          go_wp2_with fail
          go_roundw
          case rel => exact ⟨i + 1, _, _, some ⟨g2, 0, none⟩, c', _, s2, D2, by go_num, by omega, rfl, HL4.out, HWS2.out, HWP2.out, HR2.out, HJ4.out, HF4.out, HD4.out, HSEP4.out⟩
          case measure => simp [intOf]; omega
      · have hlt' : ¬ (i : Int) < l2 := by omega
        have hil : i = l2 := by omega
        subst hil
        have hb0 := blk_fr HF.out (fun h => by have := (HOWN.out _ h).1; have := HBE.out; omega) HB0.out
        have hb1 := blk_fr HF.out (fun h => by have := (HOWN.out _ h).1; have := HBE.out; omega) HB1.out
        obtain ⟨⟨x0, x1, x2, x3, x4, x5, x6, x7, x8⟩, y0, y1, y2, y3, y4, y5, y6, y7, y8⟩ := block9 hb0
        obtain ⟨⟨z0, z1, z2, z3, z4, z5, z6, z7, z8⟩, t0, t1, t2, t3, t4, t5, t6, t7, t8⟩ := block9 hb1
        have HB1w := Lib.hid hb1
        clear hb0 hb1
        go_wp2_with fail
        have hb1' : (wr.setCell ⟨B, 6, none⟩ (.slice vo i vc)).heap[B + 1]? = some (.cells zero9 30 (0, 0)) := by
          rw [Below.heap_setCell _ _ _ _ (by show B + 1 ≠ B; omega)]; exact HB1w.out
        have hff : Fr (fun k => k = B ∨ k = B + 1) wr (put9 (wr.setCell ⟨B, 6, none⟩ (.slice vo i vc)) (B + 1) (.int .i64 h.k) (.string h.nm) (.int .i64 h.n) (.int .i64 h.tk) (.int .i64 h.tn) (.slice o1 l1 c1) (.slice vo i vc) (.int .i64 h.fr) (.int .i64 h.en)) :=
          (Fr.setCell _ _ _ _ (.inl rfl)).trans ((put9_fr _ _ _ _ _ _ _ _ _ _ _).mono (fun k _ hk => .inr hk))
        have hbf := put9_block (a0 := .int .i64 h.k) (a1 := .string h.nm) (a2 := .int .i64 h.n) (a3 := .int .i64 h.tk) (a4 := .int .i64 h.tn) (a5 := .slice o1 l1 c1) (a6 := .slice vo i vc) (a7 := .int .i64 h.fr) (a8 := .int .i64 h.en) hb1'
        change bodyPost _ _ _ _ _ (put9 (wr.setCell ⟨B, 6, none⟩ (.slice vo i vc)) (B + 1) (.int .i64 h.k) (.string h.nm) (.int .i64 h.n) (.int .i64 h.tk) (.int .i64 h.tn) (.slice o1 l1 c1) (.slice vo i vc) (.int .i64 h.fr) (.int .i64 h.en))
        clear x0 x1 x2 x3 x4 x5 x6 x7 x8 y0 y1 y2 y3 y4 y5 y6 y7 y8 z0 z1 z2 z3 z4 z5 z6 z7 z8 t0 t1 t2 t3 t4 t5 t6 t7 t8 hb1'
        generalize (put9 (wr.setCell ⟨B, 6, none⟩ (.slice vo i vc)) (B + 1) (.int .i64 h.k) (.string h.nm) (.int .i64 h.n) (.int .i64 h.tk) (.int .i64 h.tn) (.slice o1 l1 c1) (.slice vo i vc) (.int .i64 h.fr) (.int .i64 h.en)) = wf at *
        obtain ⟨⟨x0, x1, x2, x3, x4, x5, x6, x7, x8⟩, _⟩ := block9 hbf
        have HFIN : Hid (WkQ R stp out J b s D e h ps o1 l1 c1 i W (.returned (tmv h o1 l1 c1 vo i vc)) wf) := by
          have hB := HBE.out
          have hz0 := HZ0.out
          have hfz := hff.size
          have hde := To.drop_end ps i (by have := HL.out; omega)
          have hws := HWS.out
          have hwp := HWP.out
          rw [hde] at hws hwp
          have hws' : s' = FS := hws
          have hwp' : f = FP := by rw [← hwp]; show f = f.app .nil; rw [To.app_nil]
          have hD1 : ∀ k, D' k → ¬ (k = B ∨ k = B + 1) := fun k hk => by
            rcases HD.out k hk with h | h
            · have := (HOWN.out k h).1; omega
            · omega
          have hto := rowO_to HROW.out HFL.out.symm (by unfold maxLen; omega)
          have hE : ∀ k, ((Value.slice vo i vc).ownBlock = some k ∨ ∃ j, E j k) → W0.heap.size ≤ k ∧ k < wr.heap.size ∧ ¬ D' k := fun k hk => by
            rcases hk with h | ⟨j, h⟩
            · exact ⟨(HROW.out.low k h).1, (HROW.out.own.lt k h).2, fun hd => (HSEP.out k hd).1 h⟩
            · have := HROW.out.sep j k h; exact ⟨this.1, this.2.1, fun hd => (HSEP.out k hd).2 j h⟩
          refine ⟨vo, vc, D', fun k => (Value.slice vo i vc).ownBlock = some k ∨ ∃ j, E j k, by rw [HWK.out], ?_, ?_, ?_, ?_, ?_⟩
          · rw [HWK.out]; show J b (wk stp out h.k h.nm 0 s e ps).1 D' wf
            rw [HFS.out, ← hws']
            exact HK.out.stay _ _ _ _ _ (HK.out.weak _ b _ _ _ HJ.out (by omega)) (hff.mono (fun k _ h => ⟨by have := HBIG.out; omega, fun hd => hD1 k hd h⟩))
          · rw [HWK.out]; show TO R wf _ vo i (wk stp out h.k h.nm 0 s e ps).2
            rw [HFP.out, ← hwp']
            exact hto.fr hff (fun k _ hk => ⟨hk, fun h => by have := hR k hk; have := HBIG.out; omega⟩) (fun k hk h => by have := (hE k hk).1; omega)
          · intro k hk; have := hE k hk; exact ⟨by omega, by omega, this.2.2⟩
          · exact ((HQ0.out.fr).trans HF.out).trans' hff (fun k hk h => by omega)
          · intro k hk
            rcases HD.out k hk with h | h
            · exact .inl h
            · exact .inr (by omega)
        clear hff hbf
        refine bodyPost_ret (by simp [results, Tryd.results71, go_sem, x0, x1, x2, x3, x4, x5, x6, x7, x8]; rfl) rfl ?_
        exact HFIN.out
end
end Sc
end Go.Proofs.YtnfodiedalhlhaaDoor
end
section
namespace Go.Proofs.YtnfodiedalhlhaaDoor.St
open Go.RowKit
theorem step_append_one {P : Program} (W : World) {ops : Array Oper} {o : Oper} {a : Act} {K : Act → World → Prop} {Q : Exit → Act → World → Prop} {E : Prop}
    (hg : o.guard = none) (s x : Operand) (t : TypeId) (hop : o.op = Op.call { callee := Callee.builtin Builtin.append, args := #[s, x], argTypes := #[t, t] })
    (e : TypeId) (z : Value) (size bytes : Nat) (he : Elem P t e z size bytes)
    (v : Value) (n : Nat) (xs : List Value) (hs : a.eval s = v) (hown : W.ownsRow 0 e size v n xs)
    (news : Array Value) (hx : a.eval x = .slice (some ⟨W.heap.size, 0, none⟩) 1 1) (hn : news.size = size) (h1c : ∀ u ∈ news.toList, u.oneCell' = true)
    (b1 : n + 1 ≤ maxLen) (b2 : (n + 1) * bytes ≤ 140737488355328)
    (hK : ∀ g c w', w'.ownsRow 0 e size (.slice (some ⟨g, 0, none⟩) (n + 1) c) (n + 1) (xs ++ news.toList) → Fr (fun k => v.ownBlock = some k) W w' → (v.ownBlock = some g ∨ W.heap.size ≤ g) → K (a.put o.dst (.slice (some ⟨g, 0, none⟩) (n + 1) c)) w') :
    if Region.wanted o (yielded ops a.tmps) = true then Oper.wp P o a (W.alloc (.cells news e)) K Q else E := by
  obtain ⟨i0, hi, hz0, hz1, hz2⟩ := info_parts he.info
  refine step_append_lies (w := W.alloc (.cells news e)) hg s x t hop 0 e i0 z size bytes he.under hi hz0 hz1 hz2 he.cells he.pos v n xs hs (hown.alloc _) ⟨W.heap.size, 0, none⟩ 1 1 news.toList hx (by simpa using hn) ?_ h1c (by omega) b1 b2 (Nat.zero_le _) _ rfl ?_
  · intro j u hu
    rw [Addr.add_lit, cell_of_row (W.alloc (.cells news e)) W.heap.size (0 + j) news e (0, 0) (heap_alloc_new W _)]
    simpa using hu
  · intro g cap w' ho hgr hg' _
    refine hK g cap w' ho ((Fr.alloc _ W _).trans (Fr.grown hgr (fun k hk => hk))) ?_
    rcases hg' with h | h
    · exact .inl h
    · exact .inr (by simp at h; omega)
end Go.Proofs.YtnfodiedalhlhaaDoor.St
end
