/-
  Texts laid together (ScWalk, St1, ScFreeDo, CnUses0): laws and walks, with their conditions in their statements.
-/
import Derived.Deep.RegionLaw
import Derived.Laws.OwnMore
import Derived.Test.YtnfodiedalhlhaaDoorNA7
section
namespace Go.Proofs.YtnfodiedalhlhaaDoor
open Go.RowKit Go.Shelf
namespace Sc
section
variable {σ : Type} {F : Nat} {lb : Array Value} {R : Nat → Prop} {L0 : Nat} {stp : σ → Nd → List ByteArray → σ} {out : Nd → List ByteArray → Nd} {J : Nat → σ → (Nat → Prop) → World → Prop}
def WkI (R : Nat → Prop) (stp : σ → Nd → List ByteArray → σ) (out : Nd → List ByteArray → Nd) (J : Nat → σ → (Nat → Prop) → World → Prop) (b : Nat) (D : Nat → Prop) (e : List ByteArray) (bk : Int) (nm : ByteArray) (ps : To) (FS : σ) (FP : To) (W0 : World) (l2 : Nat) (v t : Value) (wr : World) : Prop :=
  ∃ (i : Nat) (f : To) (xs : List Value) (vo : Option Addr) (vc : Nat) (E : Nat → Nat → Prop) (s : σ) (D' : Nat → Prop), t = .int .i64 i ∧ i ≤ l2 ∧ v = .slice vo i vc ∧ f.length = i ∧ (wk stp out bk nm i s e (ps.drop i)).1 = FS ∧ f.app (wk stp out bk nm i s e (ps.drop i)).2 = FP ∧
    TmRowO R wr W0.heap.size (.slice vo i vc) f xs E ∧ J (b + (ps.drop i).size) s D' wr ∧ Fr D W0 wr ∧ (∀ k, D' k → D k ∨ W0.heap.size ≤ k) ∧ (∀ k, D' k → (Value.slice vo i vc).ownBlock ≠ some k ∧ ∀ j, ¬ E j k)
set_option maxRecDepth 100000 in
set_option maxHeartbeats 8000000 in
theorem walkT_any (eg : ∀ args w, (callFunc F args).run Tryd.prog w = .ok (.enter F args) w) (hK : DoW F lb R L0 stp out J) (hR : ∀ k, R k → k < L0) (hout : ∀ h e, (out h e).tp = h.tp) (h : Nd) (ps : To) : TWk F lb R stp out J h ps := by
  refine To.ind' (T := TWk F lb R stp out J) ?_ h ps
  intro h ps ih b s D W T e o1 l1 c1 o2 l2 c2 no n c hJ hN hnc hT hz hs1 hs hv hav
  have HK := Lib.hid hK
  have HS := Lib.hid hs
  have HS1 := Lib.hid hs1
  have IH := Lib.hid ih
  have HN := Lib.hid hN
  have HAV := Lib.hid hav
  have HTD := Lib.hid hT
  have HNC := Lib.hid hnc
  have hll := To.length_le ps
  rw [← hs.1] at hll
  have HL := Lib.hid hs.1
  have hbig := hK.big _ _ _ _ hJ
  have HBIG := Lib.hid hbig
  have hown := hK.own _ _ _ _ hJ
  have HOWN := Lib.hid hown
  obtain ⟨W0, hW0⟩ : ∃ W0, W0 = (W.alloc (.cells (cells9 h o1 l1 c1 o2 l2 c2) 30)).alloc (.cells zero9 30) := ⟨_, rfl⟩
  have HQ0 : Hid (Quiet0 W W0) := by rw [hW0]; exact (Quiet0.alloc _ _).trans (Quiet0.alloc _ _)
  have hz0 : W.heap.size + 2 = W0.heap.size := by rw [hW0]; simp
  have HZ0 := Lib.hid hz0
  have HB0 : Hid (W0.heap[W.heap.size]? = some (.cells (cells9 h o1 l1 c1 o2 l2 c2) 30 (0, 0))) := by
    show _ = _; rw [hW0, Below.heap_alloc _ _ _ (by simp)]; exact heap_alloc_new W _
  have HB1 : Hid (W0.heap[W.heap.size + 1]? = some (.cells zero9 30 (0, 0))) := by
    show _ = _; rw [hW0]
    have := heap_alloc_new (W.alloc (.cells (cells9 h o1 l1 c1 o2 l2 c2) 30)) (.cells zero9 30)
    simpa using this
  have HJ0 : Hid (J (b + (ps.size + 1)) s D W0) := hK.stay _ _ _ _ _ hJ (HQ0.out.mono (fun _ _ h => h.elim))
  clear hs hs1 ih hN hav hJ hT hK hnc hown hbig hz0
  by_cases hk : h.k = 1
  · have hk' : (h.k == 1) = true := by simp [hk]
    have HWK := Lib.hid (wk1_var stp out s e h ps hk)
    have hps : ps = .nil := hv hk
    have HL0 : Hid (l2 = 0) := by have := HL.out; rw [hps] at this; exact this
    have HPS := Lib.hid hps
    have HC := Lib.hid (HK.out.call (b + ps.size) s D W0 T e h o1 l1 c1 o2 l2 c2 no n c HJ0.out (HN.out.stay HQ0.out) (by omega) (HS1.out.stay HQ0.out) hk)
    have HB0' : Hid (Cells9 W0 W.heap.size 0 h o1 l1 c1 o2 l2 c2) := cells9_block HB0.out
    clear hk hps hv
    unfold tmv at HC ⊢
    go_enter Tryd.func71, Tryd.ntmps71
    go_upto_region 1 with fail
    rw [← hW0]
    clear hW0
    generalize hB : W.heap.size = B at *
    have HBE := Lib.hid hB
    clear hB
    obtain ⟨a0, a1, a2, a3, a4, a5, a6, a7, a8⟩ := HB0'.out
    go_wp2_with fail
    refine HC.out.mono ?_; rintro x w1 ⟨rfl, D1, hj1, hf1, hd1⟩
    unfold tmv
    have hz0 := HZ0.out
    have hb1 := blk_fr hf1 (fun h => by have := (HOWN.out _ h).1; have := HBE.out; omega) HB1.out
    obtain ⟨⟨z0, z1, z2, z3, z4, z5, z6, z7, z8⟩, t0, t1, t2, t3, t4, t5, t6, t7, t8⟩ := block9 hb1
    have HB2 := Lib.hid hb1
    have HJ1 := Lib.hid hj1
    have HF1 := Lib.hid hf1
    have HD1 := Lib.hid hd1
    clear hb1 hj1 hf1 hd1 a0 a1 a2 a3 a4 a5 a6 a7 a8
    have HH : Hid ((wk1 stp out s e h ps).2.1 = out h e ∧ (wk1 stp out s e h ps).1 = stp s h e ∧ (wk1 stp out s e h ps).2.2 = ps) := by show _ ∧ _ ∧ _; rw [HWK.out]; exact ⟨rfl, rfl, rfl⟩
    generalize hho : out h e = ho at *
    have HHO := Lib.hid hho
    clear hho
    go_wp2_with fail
    have hff := put9_fr w1 (B + 1) (.int .i64 ho.k) (.string ho.nm) (.int .i64 ho.n) (.int .i64 ho.tk) (.int .i64 ho.tn) (.slice o1 l1 c1) (.slice o2 l2 c2) (.int .i64 ho.fr) (.int .i64 ho.en)
    have hbf := put9_block (a0 := .int .i64 ho.k) (a1 := .string ho.nm) (a2 := .int .i64 ho.n) (a3 := .int .i64 ho.tk) (a4 := .int .i64 ho.tn) (a5 := .slice o1 l1 c1) (a6 := .slice o2 l2 c2) (a7 := .int .i64 ho.fr) (a8 := .int .i64 ho.en) HB2.out
    change bodyPost _ _ _ _ _ (put9 w1 (B + 1) (.int .i64 ho.k) (.string ho.nm) (.int .i64 ho.n) (.int .i64 ho.tk) (.int .i64 ho.tn) (.slice o1 l1 c1) (.slice o2 l2 c2) (.int .i64 ho.fr) (.int .i64 ho.en))
    clear z0 z1 z2 z3 z4 z5 z6 z7 z8 t0 t1 t2 t3 t4 t5 t6 t7 t8
    generalize put9 w1 (B + 1) (.int .i64 ho.k) (.string ho.nm) (.int .i64 ho.n) (.int .i64 ho.tk) (.int .i64 ho.tn) (.slice o1 l1 c1) (.slice o2 l2 c2) (.int .i64 ho.fr) (.int .i64 ho.en) = wf at *
    obtain ⟨⟨x0, x1, x2, x3, x4, x5, x6, x7, x8⟩, _⟩ := block9 hbf
    have HFIN : Hid (WkQ R stp out J b s D e h ps o1 l1 c1 l2 W (.returned (tmv ho o1 l1 c1 o2 l2 c2)) wf) := by
      have hzz := HF1.out.size
      have hB := HBE.out
      have hD1 : ∀ k, D1 k → k ≠ B + 1 := fun k hk => by
        rcases HD1.out k hk with h | h
        · have := (HOWN.out k h).1; omega
        · omega
      refine ⟨o2, c2, D1, fun _ => False, by rw [HH.out.1, ← HHO.out], ?_, ?_, fun _ h => h.elim, ?_, ?_⟩
      · rw [HH.out.2.1]
        refine HK.out.stay _ _ _ _ _ (HK.out.weak _ b _ _ _ HJ1.out (by omega)) (hff.mono (fun k _ h => ⟨by have := HBIG.out; omega, fun hd => hD1 k hd h⟩))
      · rw [HH.out.2.2, HPS.out, HL0.out]; exact TO.nil _ _ _ _
      · exact ((HQ0.out.fr).trans HF1.out).trans' hff (fun k hk h => by omega)
      · intro k hk
        rcases HD1.out k hk with h | h
        · exact .inl h
        · exact .inr (by omega)
    clear hff hbf
    refine bodyPost_ret (by simp [results, Tryd.results71, go_sem, x0, x1, x2, x3, x4, x5, x6, x7, x8]; rfl) rfl ?_
    exact HFIN.out
  · have hk' : (h.k == 1) = false := by simp [hk]
    have HWK := Lib.hid (wk1_no stp out s e h ps hk)
    obtain ⟨FS, hFS⟩ : ∃ FS, (wk stp out h.k h.nm 0 s e ps).1 = FS := ⟨_, rfl⟩
    obtain ⟨FP, hFP⟩ : ∃ FP, (wk stp out h.k h.nm 0 s e ps).2 = FP := ⟨_, rfl⟩
    have HFS := Lib.hid hFS
    have HFP := Lib.hid hFP
    have HB0' : Hid (Cells9 W0 W.heap.size 0 h o1 l1 c1 o2 l2 c2) := cells9_block HB0.out
    have HJS : Hid (J (b + ps.size) s D W0) := HK.out.weak _ _ _ _ _ HJ0.out (by omega)
    clear hk hv hFS hFP
    unfold tmv
    go_enter Tryd.func71, Tryd.ntmps71
    go_upto_region 1 with fail
    rw [← hW0]
    clear hW0
    generalize hB : W.heap.size = B at *
    have HBE := Lib.hid hB
    clear hB
    obtain ⟨a0, a1, a2, a3, a4, a5, a6, a7, a8⟩ := HB0'.out
    go_wp2_with fail
    clear a0 a1 a2 a3 a4 a5 a6 a7 a8
    go_loopw [7, 21] (fun v t wr => WkI R stp out J b D e h.k h.nm ps FS FP W0 l2 v t wr) (fun _ t _ => l2 - (intOf t).toNat)
    case atStart => exact ⟨0, .nil, [], none, 0, fun _ _ => False, s, D, rfl, Nat.zero_le _, rfl, rfl, by rw [To.drop_zero]; exact HFS.out, by rw [To.drop_zero]; exact HFP.out, TmRowO.nil _ _ (fun k hk => by have := hR k hk; have := HBIG.out; have := HZ0.out; have := HBE.out; omega), by rw [To.drop_zero]; exact HJS.out, Fr.refl _ _, fun k hk => .inl hk, fun k _ => ⟨by simp [Value.ownBlock], fun _ h => h⟩⟩
    case round =>
      obtain ⟨i, f, xs, vo, vc, E, s', D', rfl, hi, rfl, hfl, hws, hwp, hrow, hj, hf, hd, hsep⟩ := hrel
      have HFL := Lib.hid hfl
      have HWS := Lib.hid hws
      have HWP := Lib.hid hwp
      have HROW := Lib.hid hrow
      have HJ := Lib.hid hj
      have HF := Lib.hid hf
      have HD := Lib.hid hd
      have HSEP := Lib.hid hsep
      have hwz := hf.size
      clear hfl hws hwp hrow hj hf hd hsep
      have HCB : Hid (Cells9 wr B 0 h o1 l1 c1 o2 l2 c2) := HB0'.out.fr HF.out (fun h => by have := (HOWN.out _ h).1; have := HBE.out; omega)
      by_cases hlt : i < l2
      · have hlt' : (i : Int) < l2 := by omega
        obtain ⟨b9, off, hd, qs, p1, m1, d1, p2, m2, d2, rfl, hdr, hg, hRb, hc9, hsl, hts⟩ := HS.out.nth hlt
        have hdR : ∀ k, R k → ¬ D k := fun k hk hd => (HOWN.out k hd).2 hk
        have hfw : Fr D W wr := HQ0.out.fr.trans HF.out
        have hc9w := hc9.fr hfw (hdR _ hRb)
        have hslw := hsl.fr hfw (T := R) (fun k _ hk => ⟨hk, hdR k hk⟩)
        have htsw := hts.fr hfw (T := R) (fun k _ hk => ⟨hk, hdR k hk⟩)
        have hsq := To.size_get ps i hd qs hg
        have hvq := allV_get ps i hd qs HAV.out hg
        have hds := To.size_drop ps i
        have hdz : (ps.drop i).size = qs.size + 1 + (ps.drop (i + 1)).size := by rw [hdr]; simp only [To.size] <;> omega
        obtain ⟨W1, hW1⟩ : ∃ W1, W1 = wr.alloc (.cells (cells9 hd p1 m1 d1 p2 m2 d2) 30) := ⟨_, rfl⟩
        have hq1 : Quiet0 wr W1 := by rw [hW1]; exact Quiet0.alloc _ _
        have HP1 : Hid (Cells9 W1 wr.heap.size 0 hd p1 m1 d1 p2 m2 d2) := by show Cells9 _ _ _ _ _ _ _ _ _ _; rw [hW1]; exact cells9_new _ _ _ _ _ _ _ _ _
        have HQ1 := Lib.hid hq1
        have HCB1 : Hid (Cells9 W1 B 0 h o1 l1 c1 (some ⟨b9, off, none⟩) l2 c2) := HCB.out.fr hq1 (fun h => h)
        have HSLW := Lib.hid (hslw.stay hq1)
        have HTSW := Lib.hid (htsw.stay hq1)
        have HHD := Lib.hid hdr
        have HDZ := Lib.hid hdz
        have HIH := Lib.hid (IH.out i hd qs hg)
        have hqsz : qs.size + 1 ≤ ps.size := by omega
        have HVQ := Lib.hid hvq
        have HEL : Hid ((envOf h.k h.nm i e).length ≤ n + 1) := by
          show _ ≤ _
          have := HN.out.1
          unfold envOf; split <;> simp <;> omega
        obtain ⟨a0, a1, a2, a3, a4, a5, a6, a7, a8⟩ := HCB.out
        obtain ⟨q0, q1, q2, q3, q4, q5, q6, q7, q8⟩ := hc9w
        have HFW := Lib.hid hfw
        clear hdr hg hsl hts hsq hvq hds hdz hc9 hslw htsw hq1 hdR hRb hfw
        go_upto_region 7 with fail
        change Code.wp _ _ _ _ (wr.alloc (.cells (cells9 hd p1 m1 d1 p2 m2 d2) 30))
        rw [← hW1]
        clear hW1
        generalize hpb : wr.heap.size = pb at *
        have HPB := Lib.hid hpb
        clear hpb a0 a1 a2 a3 a4 a5 a6 a7 a8 q0 q1 q2 q3 q4 q5 q6 q7 q8
        obtain ⟨a0, a1, a2, a3, a4, a5, a6, a7, a8⟩ := HCB1.out
        have HBN := Lib.hid (binds_any h.k i W1)
        go_wp2_with fail
        refine HBN.out.mono ?_; rintro x w2 ⟨rfl, rfl⟩
        go_upto_if 30 with fail
        go_cut [10] (fun v wx => ∃ (no' : Option Addr) (nc' : Nat), v = .slice no' (envOf h.k h.nm i e).length nc' ∧ NmIn (fun k => (T k ∧ k < B) ∨ pb ≤ k) wx no' (envOf h.k h.nm i e).length (envOf h.k h.nm i e) ∧ (envOf h.k h.nm i e).length ≤ nc' ∧ Quiet0 W1 wx)
        case first =>
          have HNW : Hid (NmIn (fun k => (T k ∧ k < B) ∨ pb ≤ k) W1 no n e) := (HN.out.fr (T' := fun k => (T k ∧ k < B) ∨ pb ≤ k) HFW.out (fun k hk ht => ⟨.inl ⟨ht, by have := HBE.out; omega⟩, HTD.out k ht⟩)).stay HQ1.out
          cases hb : bindsB h.k i
          case false =>
            have HE : Hid (envOf h.k h.nm i e = e) := by show _ = _; unfold envOf; rw [hb]; rfl
            have HNL := Lib.hid HN.out.1
            go_wp2_with fail
            go_meet
            rw [HE.out]
            exact ⟨no, c, by rw [← HNL.out], HNL.out ▸ HNW.out, by rw [← HNL.out]; exact HNC.out, Quiet0.refl _⟩
          case true =>
            have HE : Hid (envOf h.k h.nm i e = h.nm :: e) := by show _ = _; unfold envOf; rw [hb]; rfl
            have HNL := Lib.hid HN.out.1
            have hnone : no = none → n = 0 := fun hx => by have := HN.out; rw [hx] at this; exact this.none
            have HCL : Hid (∀ W, Calls Tryd.prog 55 #[.slice no n c] W fun e w' => e = .returned (.slice no n n) ∧ Quiet0 W w') := fun W => (clip_any no n c W HNC.out hnone).mono (fun e w' h => ⟨h.1, by rw [h.2]; exact Quiet0.refl _⟩)
            have HS1' : Hid (∀ W, Quiet0 W1 W → W.cell? ⟨B, 1, none⟩ = some (.string h.nm)) := fun W hq => (HCB1.out.fr hq (fun h => h)).2.1
            clear a0 a1 a2 a3 a4 a5 a6 a7 a8 hb hnone
            go_upto_region 9 with fail
            have hqc := Quiet0.refl W1
            go_region_held3 (fun w' => w'.cell? ⟨B, 1, none⟩ = some (.string h.nm))
              (((refine HS1'.out _ ?_); (repeat (first | with_reducible exact hqc | with_reducible exact Quiet0.refl _ | with_reducible refine Quiet0.trans ?_ (Quiet0.alloc _ _) | with_reducible refine Quiet0.trans ?_ (Quiet0.drew _) | fail))))
              (first
                | (go_at_call 55; (with_reducible refine Calls.mono (HCL.out _) ?_); rintro e wx ⟨rfl, hqx⟩; (refine with_q (w0 := W1) ?hq2 hqx ?_); (case hq2 => (repeat (first | with_reducible exact hqc | with_reducible exact Quiet0.refl _ | with_reducible refine Quiet0.trans ?_ (Quiet0.alloc _ _) | with_reducible refine Quiet0.trans ?_ (Quiet0.drew _) | fail))); intro hqc)
                | ((refine step_name _ rfl (.tmp 32) (.tmp 35) rfl (NmIn.stay HNW.out ?hq3) h.nm W1.heap.size rfl rfl ?hH (by omega) (Wb := W1) ?hqb ?_); (case hqb => (repeat (first | with_reducible exact hqc | with_reducible exact Quiet0.refl _ | with_reducible refine Quiet0.trans ?_ (Quiet0.alloc _ _) | with_reducible refine Quiet0.trans ?_ (Quiet0.drew _) | fail))); (case hq3 => (repeat (first | with_reducible exact hqc | with_reducible exact Quiet0.refl _ | with_reducible refine Quiet0.trans ?_ (Quiet0.alloc _ _) | with_reducible refine Quiet0.trans ?_ (Quiet0.drew _) | fail))); (case hH => (repeat (first | ((with_reducible refine blk_new _ _ _ _ ?hbe); (case hbe => (simp; done))) | with_reducible refine blk_after (Quiet0.alloc _ _) ?_ | with_reducible refine blk_drew ?_ | with_reducible refine blk_after hqx ?_ | fail))); intro g3 c3 w3 hN3 hc3 hq3; (refine with_q (w0 := W1) ?hq2 hq3 ?_); (case hq2 => (repeat (first | with_reducible exact hqc | with_reducible exact Quiet0.refl _ | with_reducible refine Quiet0.trans ?_ (Quiet0.alloc _ _) | with_reducible refine Quiet0.trans ?_ (Quiet0.drew _) | fail))); intro hqc)
                | ((refine step_name _ rfl (.tmp 32) (.tmp 35) rfl (NmIn.stay HNW.out ?hq3) h.nm wx.heap.size rfl rfl ?hH (by omega) (Wb := W1) ?hqb ?_); (case hqb => (repeat (first | with_reducible exact hqc | with_reducible exact Quiet0.refl _ | with_reducible refine Quiet0.trans ?_ (Quiet0.alloc _ _) | with_reducible refine Quiet0.trans ?_ (Quiet0.drew _) | fail))); (case hq3 => (repeat (first | with_reducible exact hqc | with_reducible exact Quiet0.refl _ | with_reducible refine Quiet0.trans ?_ (Quiet0.alloc _ _) | with_reducible refine Quiet0.trans ?_ (Quiet0.drew _) | fail))); (case hH => (repeat (first | ((with_reducible refine blk_new _ _ _ _ ?hbe); (case hbe => (simp; done))) | with_reducible refine blk_after (Quiet0.alloc _ _) ?_ | with_reducible refine blk_drew ?_ | with_reducible refine blk_after hqx ?_ | fail))); intro g3 c3 w3 hN3 hc3 hq3; (refine with_q (w0 := W1) ?hq2 hq3 ?_); (case hq2 => (repeat (first | with_reducible exact hqc | with_reducible exact Quiet0.refl _ | with_reducible refine Quiet0.trans ?_ (Quiet0.alloc _ _) | with_reducible refine Quiet0.trans ?_ (Quiet0.drew _) | fail))); intro hqc)
                | fail)
            all_goals
              go_wp2_with fail
              go_meet
              rw [HE.out, ← hN3.1]
              exact ⟨some ⟨g3, 0, none⟩, c3, rfl, hN3.fr (Fr.refl (fun _ => False) _) (fun k _ hk => ⟨.inr (by have := HQ1.out.size; have := HPB.out; have hk' : W1.heap.size ≤ k := hk; omega), fun h => h⟩), hc3, hqc⟩
        case rest =>
          rename World => wx
          obtain ⟨no2, nc2, rfl, hn2, hnc2, hqx⟩ := hcut
          have HQX := Lib.hid hqx
          have HQW := Lib.hid (HQ1.out.trans hqx)
          have HN2 := Lib.hid hn2
          have HNC2 := Lib.hid hnc2
          obtain ⟨q0, q1, q2, q3, q4, q5, q6, q7, q8⟩ := HP1.out.fr hqx (fun h => h)
          have hxz := HQW.out.size
          have hjx := HK.out.stay _ _ _ _ _ HJ.out (HQW.out.mono (fun _ _ h => h.elim))
          rw [HDZ.out, show b + (qs.size + 1 + (ps.drop (i + 1)).size) = (b + (ps.drop (i + 1)).size) + (qs.size + 1) from by omega] at hjx
          have HC := Lib.hid (HIH.out (b + (ps.drop (i + 1)).size) s' D' wx (fun k => (T k ∧ k < B) ∨ (pb ≤ k ∧ ¬ D' k)) (envOf h.k h.nm i e) p1 m1 d1 p2 m2 d2 no2 _ nc2 hjx
            (hn2.fr (Fr.refl (fun _ => False) _) (fun k hkl hk => by
              rcases hk with hk | hk
              · exact ⟨.inl hk, fun h => h⟩
              · exact ⟨.inr ⟨hk, fun hd => by have := (HK.out.own _ _ _ _ HJ.out k hd).1; have := HPB.out; omega⟩, fun h => h⟩)) hnc2
            (fun k hk hd => by
              rcases hk with ⟨h1, h2⟩ | ⟨h1, h2⟩
              · rcases HD.out k hd with h | h
                · exact HTD.out k h1 h
                · have := HZ0.out; omega
              · exact h2 hd)
            (by have := HEL.out; omega) (HSLW.out.stay hqx) (HTSW.out.stay hqx) HVQ.out.1 HVQ.out.2)
          unfold tmv at HC
          clear hqx hn2 hnc2 hjx a0 a1 a2 a3 a4 a5 a6 a7 a8 HBN
          go_wp2_with fail
          refine HC.out.mono ?_; rintro x w1 ⟨r2, e2, D2, E2, rfl, hj2, ht2, hE2, hf2, hdd2⟩
          unfold tmv
          have hws := HWS.out
          have hwp := HWP.out
          rw [HHD.out, wk_cons] at hws hwp
          have htp := wk1_tp stp out hout s' (envOf h.k h.nm i e) hd qs
          obtain ⟨qq, hqq⟩ : ∃ qq, wk1 stp out s' (envOf h.k h.nm i e) hd qs = qq := ⟨_, rfl⟩
          rw [hqq] at hws hwp hj2 ht2 htp ⊢
          obtain ⟨s2, hd2, qs2⟩ := qq
          have hws' : (wk stp out h.k h.nm (i + 1) s2 e (ps.drop (i + 1))).1 = FS := hws
          have hwp' : (f.app (.cons hd2 qs2 .nil)).app (wk stp out h.k h.nm (i + 1) s2 e (ps.drop (i + 1))).2 = FP := (to_app_assoc' f hd2 qs2 _).symm.trans hwp
          have htp' : hd2.tp = hd.tp := htp
          have HWS2 := Lib.hid hws'
          have HWP2 := Lib.hid hwp'
          have HTP := Lib.hid htp'
          have HJ2 : Hid (J (b + (ps.drop (i + 1)).size) s2 D2 w1) := hj2
          have HT2 : Hid (TO R w1 E2 r2 m2 qs2) := ht2
          have HE2 := Lib.hid hE2
          have HF2 := Lib.hid hf2
          have HD2 := Lib.hid hdd2
          have hDR : ∀ k, D' k → ¬ R k ∧ (∀ j, ¬ E j k) ∧ (Value.slice vo i vc).ownBlock ≠ some k := fun k hk => ⟨(HK.out.own _ _ _ _ HJ.out k hk).2, (HSEP.out k hk).2, (HSEP.out k hk).1⟩
          have HDR := Lib.hid hDR
          have HRX := Lib.hid (HROW.out.stay HQW.out)
          have HR1 := Lib.hid (HRX.out.fr HF2.out HDR.out)
          clear hws hwp hws' hwp' htp htp' hqq hj2 ht2 hE2 hf2 hdd2 hDR q0 q1 q2 q3 q4 q5 q6 q7 q8
          have hdsz := To.size_drop ps i
          have hdsz2 : i ≤ 200000 := by omega
          go_wp2_with (at_builtin; go_must (refine wpList_append_one w1 rfl (.tmp 37) (.tmp 42) 26 rfl 30 _ 9 112 elemTm (.slice vo i vc) i xs rfl (HFL.out ▸ HR1.out.own) (cells9 hd2 p1 m1 d1 r2 m2 e2) rfl rfl ?c1 ?c2 ?c3 ?_))
          case c1 => simp [Value.oneCell']
          case c2 => unfold maxLen; omega
          case c3 => omega
          intro g2 c' w4 ho hf4 hg2
          have hWx : W0.heap.size ≤ wx.heap.size := Nat.le_trans HF.out.size hxz
          have hz1 := HF2.out.size
          have hown1 : ∀ k, (Value.slice vo i vc).ownBlock = some k → W0.heap.size ≤ k ∧ k < wr.heap.size := fun k hk => ⟨(HROW.out.low k hk).1, (HROW.out.own.lt k hk).2⟩
          have hD2own : ∀ k, D2 k → (Value.slice vo i vc).ownBlock ≠ some k := fun k hk he => by
            rcases HD2.out k hk with h | h
            · exact (HSEP.out k h).1 he
            · have := (hown1 k he).2; omega
          have HR2 : Hid (TmRowO R w4 W0.heap.size (.slice (some ⟨g2, 0, none⟩) (i + 1) c') (f.app (.cons hd2 qs2 .nil)) (xs ++ (cells9 hd2 p1 m1 d1 r2 m2 e2).toList) (fun j k => (j < f.length ∧ E j k) ∨ (j = f.length ∧ E2 k))) := by
            show TmRowO _ _ _ _ _ _ _
            have hf' := HFL.out
            subst hf'
            exact rowO_snoc HRX.out hWx HF2.out HDR.out (by rw [HTP.out]; exact (HSLW.out.stay HQX.out).fr HF2.out (fun k _ hk => ⟨hk, fun hd => (HDR.out k hd).1 hk⟩)) HT2.out (fun k hk => ⟨(HE2.out k hk).1, (HE2.out k hk).2.1⟩) ho hf4 hg2
          have HJ4 : Hid (J (b + (ps.drop (i + 1)).size) s2 D2 w4) := HK.out.stay _ _ _ _ _ HJ2.out (hf4.mono (fun k _ h => ⟨by have := (hown1 k h).1; have := HBIG.out; have := HZ0.out; have := HBE.out; omega, fun hd => hD2own k hd h⟩))
          have HF4 : Hid (Fr D W0 w4) := (((HF.out.trans HQW.out.fr).trans' HF2.out (fun k hk hd => by
            rcases HD.out k hd with h | h
            · exact h
            · omega)).trans' hf4 (fun k hk h => by have := (hown1 k h).1; omega))
          have HD4 : Hid (∀ k, D2 k → D k ∨ W0.heap.size ≤ k) := fun k hk => by
            rcases HD2.out k hk with h | h
            · exact HD.out k h
            · exact .inr (by omega)
          have HSEP4 : Hid (∀ k, D2 k → (Value.slice (some ⟨g2, 0, none⟩) (i + 1) c').ownBlock ≠ some k ∧ ∀ j, ¬ ((j < f.length ∧ E j k) ∨ (j = f.length ∧ E2 k))) := fun k hk => by
            refine ⟨fun he => ?_, ?_⟩
            · simp [Value.ownBlock] at he
              subst he
              rcases hg2 with h | h
              · exact hD2own _ hk h
              · have := (HK.out.own _ _ _ _ HJ2.out _ hk).1; omega
            · rintro j (⟨_, h⟩ | ⟨_, h⟩)
              · rcases HD2.out k hk with h' | h'
                · exact (HSEP.out k h').2 j h
                · have := (HROW.out.sep j k h).2.1; omega
              · exact (HE2.out k h).2.2 hk
          have HL4 : Hid ((f.app (.cons hd2 qs2 .nil)).length = i + 1) := by show _ = _; rw [To.app_length, HFL.out]; rfl
          clear ho hf4 hg2 hown1 hD2own
          go_wp2_with fail
          go_roundw
          case rel => exact ⟨i + 1, _, _, some ⟨g2, 0, none⟩, c', _, s2, D2, by go_num, by omega, rfl, HL4.out, HWS2.out, HWP2.out, HR2.out, HJ4.out, HF4.out, HD4.out, HSEP4.out⟩
          case measure => simp [intOf]; omega
      · have hlt' : ¬ (i : Int) < l2 := by omega
        have hil : i = l2 := by omega
        subst hil
        have hb0 := blk_fr HF.out (fun h => by have := (HOWN.out _ h).1; have := HBE.out; omega) HB0.out
        have hb1 := blk_fr HF.out (fun h => by have := (HOWN.out _ h).1; have := HBE.out; omega) HB1.out
        obtain ⟨⟨x0, x1, x2, x3, x4, x5, x6, x7, x8⟩, y0, y1, y2, y3, y4, y5, y6, y7, y8⟩ := block9 hb0
        obtain ⟨⟨z0, z1, z2, z3, z4, z5, z6, z7, z8⟩, t0, t1, t2, t3, t4, t5, t6, t7, t8⟩ := block9 hb1
        have HB1w := Lib.hid hb1
        clear hb0 hb1
        go_wp2_with fail
        have hb1' : (wr.setCell ⟨B, 6, none⟩ (.slice vo i vc)).heap[B + 1]? = some (.cells zero9 30 (0, 0)) := by
          rw [Below.heap_setCell _ _ _ _ (by show B + 1 ≠ B; omega)]; exact HB1w.out
        have hff : Fr (fun k => k = B ∨ k = B + 1) wr (put9 (wr.setCell ⟨B, 6, none⟩ (.slice vo i vc)) (B + 1) (.int .i64 h.k) (.string h.nm) (.int .i64 h.n) (.int .i64 h.tk) (.int .i64 h.tn) (.slice o1 l1 c1) (.slice vo i vc) (.int .i64 h.fr) (.int .i64 h.en)) :=
          (Fr.setCell _ _ _ _ (.inl rfl)).trans ((put9_fr _ _ _ _ _ _ _ _ _ _ _).mono (fun k _ hk => .inr hk))
        have hbf := put9_block (a0 := .int .i64 h.k) (a1 := .string h.nm) (a2 := .int .i64 h.n) (a3 := .int .i64 h.tk) (a4 := .int .i64 h.tn) (a5 := .slice o1 l1 c1) (a6 := .slice vo i vc) (a7 := .int .i64 h.fr) (a8 := .int .i64 h.en) hb1'
        change bodyPost _ _ _ _ _ (put9 (wr.setCell ⟨B, 6, none⟩ (.slice vo i vc)) (B + 1) (.int .i64 h.k) (.string h.nm) (.int .i64 h.n) (.int .i64 h.tk) (.int .i64 h.tn) (.slice o1 l1 c1) (.slice vo i vc) (.int .i64 h.fr) (.int .i64 h.en))
        clear x0 x1 x2 x3 x4 x5 x6 x7 x8 y0 y1 y2 y3 y4 y5 y6 y7 y8 z0 z1 z2 z3 z4 z5 z6 z7 z8 t0 t1 t2 t3 t4 t5 t6 t7 t8 hb1'
        generalize (put9 (wr.setCell ⟨B, 6, none⟩ (.slice vo i vc)) (B + 1) (.int .i64 h.k) (.string h.nm) (.int .i64 h.n) (.int .i64 h.tk) (.int .i64 h.tn) (.slice o1 l1 c1) (.slice vo i vc) (.int .i64 h.fr) (.int .i64 h.en)) = wf at *
        obtain ⟨⟨x0, x1, x2, x3, x4, x5, x6, x7, x8⟩, _⟩ := block9 hbf
        have HFIN : Hid (WkQ R stp out J b s D e h ps o1 l1 c1 i W (.returned (tmv h o1 l1 c1 vo i vc)) wf) := by
          have hB := HBE.out
          have hz0 := HZ0.out
          have hfz := hff.size
          have hde := To.drop_end ps i (by have := HL.out; omega)
          have hws := HWS.out
          have hwp := HWP.out
          rw [hde] at hws hwp
          have hws' : s' = FS := hws
          have hwp' : f = FP := by rw [← hwp]; show f = f.app .nil; rw [To.app_nil]
          have hD1 : ∀ k, D' k → ¬ (k = B ∨ k = B + 1) := fun k hk => by
            rcases HD.out k hk with h | h
            · have := (HOWN.out k h).1; omega
            · omega
          have hto := rowO_to HROW.out HFL.out.symm (by unfold maxLen; omega)
          have hE : ∀ k, ((Value.slice vo i vc).ownBlock = some k ∨ ∃ j, E j k) → W0.heap.size ≤ k ∧ k < wr.heap.size ∧ ¬ D' k := fun k hk => by
            rcases hk with h | ⟨j, h⟩
            · exact ⟨(HROW.out.low k h).1, (HROW.out.own.lt k h).2, fun hd => (HSEP.out k hd).1 h⟩
            · have := HROW.out.sep j k h; exact ⟨this.1, this.2.1, fun hd => (HSEP.out k hd).2 j h⟩
          refine ⟨vo, vc, D', fun k => (Value.slice vo i vc).ownBlock = some k ∨ ∃ j, E j k, by rw [HWK.out], ?_, ?_, ?_, ?_, ?_⟩
          · rw [HWK.out]; show J b (wk stp out h.k h.nm 0 s e ps).1 D' wf
            rw [HFS.out, ← hws']
            exact HK.out.stay _ _ _ _ _ (HK.out.weak _ b _ _ _ HJ.out (by omega)) (hff.mono (fun k _ h => ⟨by have := HBIG.out; omega, fun hd => hD1 k hd h⟩))
          · rw [HWK.out]; show TO R wf _ vo i (wk stp out h.k h.nm 0 s e ps).2
            rw [HFP.out, ← hwp']
            exact hto.fr hff (fun k _ hk => ⟨hk, fun h => by have := hR k hk; have := HBIG.out; omega⟩) (fun k hk h => by have := (hE k hk).1; omega)
          · intro k hk; have := hE k hk; exact ⟨by omega, by omega, this.2.2⟩
          · exact ((HQ0.out.fr).trans HF.out).trans' hff (fun k hk h => by omega)
          · intro k hk
            rcases HD.out k hk with h | h
            · exact .inl h
            · exact .inr (by omega)
        clear hff hbf
        refine bodyPost_ret (by simp [results, Tryd.results71, go_sem, x0, x1, x2, x3, x4, x5, x6, x7, x8]; rfl) rfl ?_
        exact HFIN.out
end
end Sc
end Go.Proofs.YtnfodiedalhlhaaDoor
end
section
namespace Go.Proofs.YtnfodiedalhlhaaDoor.St
open Go.RowKit
theorem step_append_one {P : Program} (W : World) {ops : Array Oper} {o : Oper} {a : Act} {K : Act → World → Prop} {Q : Exit → Act → World → Prop} {E : Prop}
    (hg : o.guard = none) (s x : Operand) (t : TypeId) (hop : o.op = Op.call { callee := Callee.builtin Builtin.append, args := #[s, x], argTypes := #[t, t] })
    (e : TypeId) (z : Value) (size bytes : Nat) (he : Elem P t e z size bytes)
    (v : Value) (n : Nat) (xs : List Value) (hs : a.eval s = v) (hown : W.ownsRow 0 e size v n xs)
    (news : Array Value) (hx : a.eval x = .slice (some ⟨W.heap.size, 0, none⟩) 1 1) (hn : news.size = size) (h1c : ∀ u ∈ news.toList, u.oneCell' = true)
    (b1 : n + 1 ≤ maxLen) (b2 : (n + 1) * bytes ≤ 140737488355328)
    (hK : ∀ g c w', w'.ownsRow 0 e size (.slice (some ⟨g, 0, none⟩) (n + 1) c) (n + 1) (xs ++ news.toList) → Fr (fun k => v.ownBlock = some k) W w' → (v.ownBlock = some g ∨ W.heap.size ≤ g) → K (a.put o.dst (.slice (some ⟨g, 0, none⟩) (n + 1) c)) w') :
    if Region.wanted o (yielded ops a.tmps) = true then Oper.wp P o a (W.alloc (.cells news e)) K Q else E := by
  obtain ⟨i0, hi, hz0, hz1, hz2⟩ := info_parts he.info
  refine step_append_lies (w := W.alloc (.cells news e)) hg s x t hop 0 e i0 z size bytes he.under hi hz0 hz1 hz2 he.cells he.pos v n xs hs (hown.alloc _) ⟨W.heap.size, 0, none⟩ 1 1 news.toList hx (by simpa using hn) ?_ h1c (by omega) b1 b2 (Nat.zero_le _) _ rfl ?_
  · intro j u hu
    rw [Addr.add_lit, cell_of_row (W.alloc (.cells news e)) W.heap.size (0 + j) news e (0, 0) (heap_alloc_new W _)]
    simpa using hu
  · intro g cap w' ho hgr hg' _
    refine hK g cap w' ho ((Fr.alloc _ W _).trans (Fr.grown hgr (fun k hk => hk))) ?_
    rcases hg' with h | h
    · exact .inl h
    · exact .inr (by simp at h; omega)
end Go.Proofs.YtnfodiedalhlhaaDoor.St
end
section
namespace Go.Proofs.YtnfodiedalhlhaaDoor
open Go.RowKit Go.Shelf
namespace Sc
abbrev put9at (w : World) (g off : Nat) (a0 a1 a2 a3 a4 a5 a6 a7 a8 : Value) : World :=
  ((((((((w.setCell ⟨g, off, none⟩ a0).setCell ⟨g, off + 1, none⟩ a1).setCell ⟨g, off + 2, none⟩ a2).setCell ⟨g, off + 3, none⟩ a3).setCell ⟨g, off + 4, none⟩ a4).setCell ⟨g, off + 5, none⟩ a5).setCell ⟨g, off + 6, none⟩ a6).setCell ⟨g, off + 7, none⟩ a7).setCell ⟨g, off + 8, none⟩ a8
theorem put9at_fr (w : World) (g off : Nat) (a0 a1 a2 a3 a4 a5 a6 a7 a8 : Value) : Fr (fun k => k = g) w (put9at w g off a0 a1 a2 a3 a4 a5 a6 a7 a8) :=
  ((((((((Fr.setCell (fun k => k = g) w ⟨g, off, none⟩ a0 rfl).trans (Fr.setCell (fun k => k = g) _ ⟨g, off + 1, none⟩ a1 rfl)).trans (Fr.setCell (fun k => k = g) _ ⟨g, off + 2, none⟩ a2 rfl)).trans (Fr.setCell (fun k => k = g) _ ⟨g, off + 3, none⟩ a3 rfl)).trans (Fr.setCell (fun k => k = g) _ ⟨g, off + 4, none⟩ a4 rfl)).trans (Fr.setCell (fun k => k = g) _ ⟨g, off + 5, none⟩ a5 rfl)).trans (Fr.setCell (fun k => k = g) _ ⟨g, off + 6, none⟩ a6 rfl)).trans (Fr.setCell (fun k => k = g) _ ⟨g, off + 7, none⟩ a7 rfl)).trans (Fr.setCell (fun k => k = g) _ ⟨g, off + 8, none⟩ a8 rfl)
theorem put9at_row {w : World} {base : Nat} {e : TypeId} {g m c n : Nat} {xs : List Value} {z0 z1 z2 z3 z4 z5 z6 z7 z8 : Value} (hx : xs.length = n * 9) (h : w.ownsRow base e 9 (.slice (some ⟨g, 0, none⟩) m c) m (xs ++ [z0, z1, z2, z3, z4, z5, z6, z7, z8])) (a0 a1 a2 a3 a4 a5 a6 a7 a8 : Value) :
    (put9at w g (n * 9) a0 a1 a2 a3 a4 a5 a6 a7 a8).ownsRow base e 9 (.slice (some ⟨g, 0, none⟩) m c) m (xs ++ [a0, a1, a2, a3, a4, a5, a6, a7, a8]) := by
  have h1 := ((((((((((h.stored (n * 9) a0).1.stored (n * 9 + 1) a1).1.stored (n * 9 + 2) a2).1.stored (n * 9 + 3) a3).1.stored (n * 9 + 4) a4).1.stored (n * 9 + 5) a5).1.stored (n * 9 + 6) a6).1.stored (n * 9 + 7) a7).1.stored (n * 9 + 8) a8).1)
  have key : ∀ (j : Nat) (u : Value) (ys : List Value), (xs ++ ys).set (n * 9 + j) u = xs ++ ys.set j u := fun j u ys => by
    rw [List.set_append_right _ _ (by omega), hx]; congr 2; omega
  have k0 : (xs ++ [z0, z1, z2, z3, z4, z5, z6, z7, z8]).set (n * 9) a0 = xs ++ [a0, z1, z2, z3, z4, z5, z6, z7, z8] := key 0 a0 _
  rw [k0, key, key, key, key, key, key, key, key] at h1
  exact h1
theorem row9_facts {w : World} {base : Nat} {e : TypeId} {g m c n : Nat} {xs : List Value} {z0 z1 z2 z3 z4 z5 z6 z7 z8 : Value} (hx : xs.length = n * 9) (hm : n + 1 = m) (h : w.ownsRow base e 9 (.slice (some ⟨g, 0, none⟩) m c) m (xs ++ [z0, z1, z2, z3, z4, z5, z6, z7, z8])) :
    (w.cell? ⟨g, n * 9, none⟩ = some z0 ∧ w.cell? ⟨g, n * 9 + 1, none⟩ = some z1 ∧ w.cell? ⟨g, n * 9 + 2, none⟩ = some z2 ∧ w.cell? ⟨g, n * 9 + 3, none⟩ = some z3 ∧ w.cell? ⟨g, n * 9 + 4, none⟩ = some z4 ∧ w.cell? ⟨g, n * 9 + 5, none⟩ = some z5 ∧ w.cell? ⟨g, n * 9 + 6, none⟩ = some z6 ∧ w.cell? ⟨g, n * 9 + 7, none⟩ = some z7 ∧ w.cell? ⟨g, n * 9 + 8, none⟩ = some z8) ∧
    (w.frozen? ⟨g, n * 9, none⟩ = false ∧ w.frozen? ⟨g, n * 9 + 1, none⟩ = false ∧ w.frozen? ⟨g, n * 9 + 2, none⟩ = false ∧ w.frozen? ⟨g, n * 9 + 3, none⟩ = false ∧ w.frozen? ⟨g, n * 9 + 4, none⟩ = false ∧ w.frozen? ⟨g, n * 9 + 5, none⟩ = false ∧ w.frozen? ⟨g, n * 9 + 6, none⟩ = false ∧ w.frozen? ⟨g, n * 9 + 7, none⟩ = false ∧ w.frozen? ⟨g, n * 9 + 8, none⟩ = false) := by
  have key : ∀ j, j < 9 → w.cell? ⟨g, n * 9 + j, none⟩ = [z0, z1, z2, z3, z4, z5, z6, z7, z8][j]? := fun j hj => by
    rw [h.cellAt _ (by omega), List.getElem?_append_right (by omega), hx]; congr 1; omega
  exact ⟨⟨key 0 (by omega), key 1 (by omega), key 2 (by omega), key 3 (by omega), key 4 (by omega), key 5 (by omega), key 6 (by omega), key 7 (by omega), key 8 (by omega)⟩, h.frozenAt _, h.frozenAt _, h.frozenAt _, h.frozenAt _, h.frozenAt _, h.frozenAt _, h.frozenAt _, h.frozenAt _, h.frozenAt _⟩
def FJ (ob b : Nat) (s : List Nd) (D : Nat → Prop) (W : World) : Prop := ∃ (o : Option Addr) (c : Nat) (xs : List Value), W.heap[ob]? = some (.cells #[.slice o s.length c] 26 (0, 0)) ∧ ListN (ob + 1) W o c s xs ∧ s.length + b ≤ 300000 ∧ ∀ k, D k ↔ (k = ob ∨ (Value.slice o s.length c).ownBlock = some k)
theorem freeDo_facts {W w4 : World} {ob B g4 m co : Nat} {o : Option Addr} {h : Nd} {o1 : Option Addr} {l1 c1 : Nat} {o2 : Option Addr} {l2 c2 : Nat} (hb : W.heap[ob]? = some (.cells #[.slice o m co] 26 (0, 0))) (hx : W.heap[B]? = some (.cells (cells9 h o1 l1 c1 o2 l2 c2) 30 (0, 0)))
    (hlow : ∀ k, (Value.slice o m co).ownBlock = some k → ob + 1 ≤ k ∧ k < B) (hz : B + 2 = W.heap.size) (hob : ob < B) (hf' : Fr (fun k => (Value.slice o m co).ownBlock = some k) W.drew w4) (hg : (Value.slice o m co).ownBlock = some g4 ∨ W.heap.size ≤ g4) :
    (ob ≠ g4 ∧ g4 ≠ ob) ∧ (B ≠ g4 ∧ g4 ≠ B) ∧ w4.heap[ob]? = some (.cells #[.slice o m co] 26 (0, 0)) ∧ w4.heap[B]? = some (.cells (cells9 h o1 l1 c1 o2 l2 c2) 30 (0, 0)) := by
  have hf := (Fr.drew (fun k => (Value.slice o m co).ownBlock = some k) W).trans hf'
  have h1 : ob ≠ g4 := by
    rcases hg with h | h
    · have := (hlow _ h).1; omega
    · omega
  have h2 : B ≠ g4 := by
    rcases hg with h | h
    · have := (hlow _ h).2; omega
    · omega
  exact ⟨⟨h1, fun e => h1 e.symm⟩, ⟨h2, fun e => h2 e.symm⟩, blk_fr hf (fun e => by have := (hlow _ e).1; omega) hb, blk_fr hf (fun e => by have := (hlow _ e).2; omega) hx⟩
def PushQ (ob : Nat) (s : List Nd) (D : Nat → Prop) (W0 wx : World) : Prop := ∃ (o : Option Addr) (c : Nat) (xs : List Value), wx.heap[ob]? = some (.cells #[.slice o s.length c] 26 (0, 0)) ∧ ListN (ob + 1) wx o c s xs ∧ Fr D W0 wx ∧ ∀ k, (Value.slice o s.length c).ownBlock = some k → D k ∨ W0.heap.size ≤ k
theorem push_end {W w4 wx : World} {ob g4 m co c4 : Nat} {o : Option Addr} {xs : List Value} {D : Nat → Prop} {s : List Nd} {h : Nd} {o1 : Option Addr} {l1 c1 : Nat} {o2 : Option Addr} {l2 c2 : Nat} (hm : s.length = m) (hl : ListN (ob + 1) W o co s xs)
    (hw : wx.ownsRow 0 30 9 (.slice (some ⟨g4, 0, none⟩) (m + 1) c4) (m + 1) (xs ++ (cells9 h o1 l1 c1 o2 l2 c2).toList)) (hb : wx.heap[ob]? = some (.cells #[.slice (some ⟨g4, 0, none⟩) (m + 1) c4] 26 (0, 0)))
    (hf' : Fr (fun k => (Value.slice o m co).ownBlock = some k) W.drew w4) (hfx : Fr (fun k => k = ob ∨ k = g4) w4 wx) (hg : (Value.slice o m co).ownBlock = some g4 ∨ W.heap.size ≤ g4) (hob : ob < W.heap.size) (hD : ∀ k, D k ↔ (k = ob ∨ (Value.slice o m co).ownBlock = some k)) : PushQ ob (s ++ [h]) D W wx := by
  have hn : (s ++ [h]).length = m + 1 := by simp [hm]
  refine ⟨some ⟨g4, 0, none⟩, c4, xs ++ (cells9 h o1 l1 c1 o2 l2 c2).toList, by rw [hn]; exact hb, ⟨by rw [hn]; exact hw, RowN.app _ _ _ _ hl.2.1 ⟨o1, l1, c1, o2, l2, c2, [], by simp, rfl⟩, ?_⟩, ?_, ?_⟩
  · intro k hk
    simp [Value.ownBlock] at hk
    subst hk
    rcases hg with h | h
    · exact hl.2.2 _ (by rw [hm]; exact h)
    · omega
  · refine (((Fr.drew (fun k => (Value.slice o m co).ownBlock = some k) W).trans hf').mono (fun k _ h => (hD k).2 (.inr h))).trans' hfx (fun k hk h => ?_)
    rcases h with h | h
    · exact (hD k).2 (.inl h)
    · subst h
      rcases hg with h | h
      · exact (hD _).2 (.inr h)
      · omega
  · intro k hk
    simp [Value.ownBlock] at hk
    subst hk
    rcases hg with h | h
    · exact .inl ((hD _).2 (.inr h))
    · exact .inr h
theorem push_end1 {W w4 : World} {ob g4 m co c4 : Nat} {o : Option Addr} {xs : List Value} {D : Nat → Prop} {s : List Nd} {h : Nd} {o1 : Option Addr} {l1 c1 : Nat} {o2 : Option Addr} {l2 c2 : Nat} (hm : s.length = m) (hl : ListN (ob + 1) W o co s xs)
    (ho : w4.ownsRow 0 30 9 (.slice (some ⟨g4, 0, none⟩) (m + 1) c4) (m + 1) (xs ++ zero9.toList)) (hb : w4.heap[ob]? = some (.cells #[.slice o m co] 26 (0, 0))) (hne : ob ≠ g4)
    (hf' : Fr (fun k => (Value.slice o m co).ownBlock = some k) W.drew w4) (hg : (Value.slice o m co).ownBlock = some g4 ∨ W.drew.heap.size ≤ g4) (hob : ob < W.heap.size) (hD : ∀ k, D k ↔ (k = ob ∨ (Value.slice o m co).ownBlock = some k)) :
    PushQ ob (s ++ [h]) D W ((put9at w4 g4 (m * 9) (.int .i64 h.k) (.string h.nm) (.int .i64 h.n) (.int .i64 h.tk) (.int .i64 h.tn) (.slice o1 l1 c1) (.slice o2 l2 c2) (.int .i64 h.fr) (.int .i64 h.en)).setCell ⟨ob, 0, none⟩ (.slice (some ⟨g4, 0, none⟩) (m + 1) c4)) := by
  have hx : xs.length = m * 9 := by rw [← hm]; exact hl.1.1
  have hfp := put9at_fr w4 g4 (m * 9) (.int .i64 h.k) (.string h.nm) (.int .i64 h.n) (.int .i64 h.tk) (.int .i64 h.tn) (.slice o1 l1 c1) (.slice o2 l2 c2) (.int .i64 h.fr) (.int .i64 h.en)
  have hr := put9at_row (n := m) hx ho (.int .i64 h.k) (.string h.nm) (.int .i64 h.n) (.int .i64 h.tk) (.int .i64 h.tn) (.slice o1 l1 c1) (.slice o2 l2 c2) (.int .i64 h.fr) (.int .i64 h.en)
  have hbo := blk_fr hfp hne hb
  exact push_end hm hl (ownsRow_fr hr (Fr.setCell (fun k => k = ob) _ _ _ rfl) (fun k hk e => by simp [Value.ownBlock] at hk; omega)) (one_setCell hbo) hf' ((hfp.mono (fun _ _ h => .inr h)).trans (Fr.setCell _ _ _ _ (.inl rfl))) hg hob hD
theorem push_end2 {W w4 : World} {ob g4 m co c4 : Nat} {o : Option Addr} {xs : List Value} {D : Nat → Prop} {s : List Nd} {h : Nd} {o1 : Option Addr} {l1 c1 : Nat} {o2 : Option Addr} {l2 c2 : Nat} (hm : s.length = m) (hl : ListN (ob + 1) W o co s xs)
    (ho : w4.ownsRow 0 30 9 (.slice (some ⟨g4, 0, none⟩) (m + 1) c4) (m + 1) (xs ++ zero9.toList)) (hb : w4.heap[ob]? = some (.cells #[.slice o m co] 26 (0, 0))) (hne : ob ≠ g4)
    (hf' : Fr (fun k => (Value.slice o m co).ownBlock = some k) W.drew w4) (hg : (Value.slice o m co).ownBlock = some g4 ∨ W.drew.heap.size ≤ g4) (hob : ob < W.heap.size) (hD : ∀ k, D k ↔ (k = ob ∨ (Value.slice o m co).ownBlock = some k)) :
    PushQ ob (s ++ [h]) D W (put9at (w4.setCell ⟨ob, 0, none⟩ (.slice (some ⟨g4, 0, none⟩) (m + 1) c4)) g4 (m * 9) (.int .i64 h.k) (.string h.nm) (.int .i64 h.n) (.int .i64 h.tk) (.int .i64 h.tn) (.slice o1 l1 c1) (.slice o2 l2 c2) (.int .i64 h.fr) (.int .i64 h.en)) := by
  have hx : xs.length = m * 9 := by rw [← hm]; exact hl.1.1
  have hfs := Fr.setCell (fun k => k = ob) w4 ⟨ob, 0, none⟩ (.slice (some ⟨g4, 0, none⟩) (m + 1) c4) rfl
  have hfp := put9at_fr (w4.setCell ⟨ob, 0, none⟩ (.slice (some ⟨g4, 0, none⟩) (m + 1) c4)) g4 (m * 9) (.int .i64 h.k) (.string h.nm) (.int .i64 h.n) (.int .i64 h.tk) (.int .i64 h.tn) (.slice o1 l1 c1) (.slice o2 l2 c2) (.int .i64 h.fr) (.int .i64 h.en)
  have hr := put9at_row (n := m) hx (ownsRow_fr ho hfs (fun k hk e => by simp [Value.ownBlock] at hk; omega)) (.int .i64 h.k) (.string h.nm) (.int .i64 h.n) (.int .i64 h.tk) (.int .i64 h.tn) (.slice o1 l1 c1) (.slice o2 l2 c2) (.int .i64 h.fr) (.int .i64 h.en)
  exact push_end hm hl hr (blk_fr hfp hne (one_setCell hb)) hf' ((hfs.mono (fun _ _ h => .inl h)).trans (hfp.mono (fun _ _ h => .inr h))) hg hob hD
theorem PushQ.drew {ob : Nat} {s : List Nd} {D : Nat → Prop} {W0 wx : World} (h : PushQ ob s D W0 wx) : PushQ ob s D W0 wx.drew := by
  obtain ⟨o, c, xs, h1, h2, h3, h4⟩ := h
  exact ⟨o, c, xs, h1, h2, h3.trans (Fr.drew D wx), h4⟩
set_option maxRecDepth 100000 in
set_option maxHeartbeats 4000000 in
theorem freeDo_any (R : Nat → Prop) (ob : Nat) (hR : ∀ k, R k → k < ob) : DoW 72 #[.pointer (some ⟨ob, 0, none⟩)] R ob frS (fun x _ => x) (FJ ob) where
  own := by
    rintro b s D A ⟨o, c, xs, hb, hl, hz, hd⟩ k hk
    rcases (hd k).1 hk with rfl | h
    · exact ⟨lt_of_block hb, fun h => by have := hR _ h; omega⟩
    · exact ⟨(hl.1.lt k h).2, fun hr => by have := hR _ hr; have := hl.2.2 k h; omega⟩
  big := by
    rintro b s D A ⟨o, c, xs, hb, _⟩
    exact Nat.le_of_lt (lt_of_block hb)
  weak := by
    rintro b b' s D A ⟨o, c, xs, hb, hl, hz, hd⟩ hle
    exact ⟨o, c, xs, hb, hl, by omega, hd⟩
  stay := by
    rintro b s D A B ⟨o, c, xs, hb, hl, hz, hd⟩ hf
    exact ⟨o, c, xs, blk_fr hf (fun h => h.2 ((hd _).2 (.inl rfl))) hb, list_fr hl hf (fun k hk h => h.2 ((hd k).2 (.inr hk))), hz, hd⟩
  call := by
    rintro b s D A T e h o1 l1 c1 o2 l2 c2 no n c ⟨o, co, xs, hb, hl, hz, hd⟩ hN hn hs hk
    obtain ⟨W0, hW0⟩ : ∃ W0, W0 = (A.alloc (.cells (cells9 h o1 l1 c1 o2 l2 c2) 30)).alloc (.cells zero9 30) := ⟨_, rfl⟩
    have HQ0 : Hid (Quiet0 A W0) := by rw [hW0]; exact (Quiet0.alloc _ _).trans (Quiet0.alloc _ _)
    have hz0 : A.heap.size + 2 = W0.heap.size := by rw [hW0]; simp
    have HZ0 := Lib.hid hz0
    have HB0 : Hid (W0.heap[A.heap.size]? = some (.cells (cells9 h o1 l1 c1 o2 l2 c2) 30 (0, 0))) := by
      show _ = _; rw [hW0, Below.heap_alloc _ _ _ (by simp)]; exact heap_alloc_new A _
    have HB1 : Hid (W0.heap[A.heap.size + 1]? = some (.cells zero9 30 (0, 0))) := by
      show _ = _; rw [hW0]
      have := heap_alloc_new (A.alloc (.cells (cells9 h o1 l1 c1 o2 l2 c2) 30)) (.cells zero9 30)
      simpa using this
    have hob := lt_of_block hb
    have hb2 := blk_fr HQ0.out (fun h => h) hb
    have HOB := Lib.hid hb2
    have HOBA := Lib.hid hb
    have HLN := Lib.hid (ListN.stay hl HQ0.out)
    have HLA := Lib.hid hl
    have HD := Lib.hid hd
    have HI := Lib.hid (index_any T e h.nm no n c W0 (hN.stay HQ0.out) (by omega))
    have HXL : Hid (xs.length = s.length * 9) := hl.1.1
    clear hb hb2 hl hd hN hs hk hz0
    unfold tmv
    by_cases hx : ix e h.nm < 0
    · have HS : Hid (frS s h e = s ++ [h]) := by show _ = _; unfold frS; rw [if_pos hx]
      generalize ix e h.nm = r at *
      go_enter Tryd.func72, Tryd.ntmps72
      go_upto_region 1 with fail
      rw [← hW0]
      clear hW0
      generalize hB : A.heap.size = B at *
      have HBE := Lib.hid hB
      clear hB
      obtain ⟨⟨x0, x1, x2, x3, x4, x5, x6, x7, x8⟩, y0, y1, y2, y3, y4, y5, y6, y7, y8⟩ := block9 HB0.out
      go_wp2_with fail
      refine HI.out.mono ?_; rintro x w2 ⟨rfl, rfl⟩
      go_upto_region 2 with fail
      have cob := cell_of_one HOB.out
      have fob := free_of_one HOB.out
      generalize hm : s.length = m at *
      have HM := Lib.hid hm
      clear hm
      have hlow : ∀ k, (Value.slice o m co).ownBlock = some k → ob + 1 ≤ k ∧ k < B := fun k hk => by have h1 := HLA.out.2.2 k (by rw [HM.out]; exact hk); have h2 := (HLA.out.1.lt k (by rw [HM.out]; exact hk)).2; have := HBE.out; omega
      have HLOW := Lib.hid hlow
      clear hlow
      have HOW15 : Hid (W0.ownsRow 0 30 9 (.slice o m co) m xs) := by have := HLN.out.1; rw [HM.out] at this; exact this
      have hA := Quiet0.alloc W0 (.cells zero9 30)
      obtain ⟨⟨xa0, xa1, xa2, xa3, xa4, xa5, xa6, xa7, xa8⟩, _⟩ := block9 (blk_after hA HB0.out)
      have coA := cell_of_one (blk_after hA HOB.out)
      clear hA
      have hi1 : (m : Int) < ((m + 1 : Nat) : Int) := by omega
      have hi2 : (m : Int) < (m : Int) + 1 := by omega
      have hi3 : (0 : Int) ≤ m := by omega
      have HHO : Hid (ob < W0.heap.size) := by have := HZ0.out; show _ < _; omega
      have HDD : Hid (∀ k, D k ↔ (k = ob ∨ (Value.slice o m co).ownBlock = some k)) := HD.out
      go_cut [15] (fun _ wx => PushQ ob (s ++ [h]) D W0 wx)
      case first =>
       go_region_law ((refine St.step_append_one W0.drew rfl (.tmp 11) (.tmp 14) 26 rfl 30 _ 9 112 elemTm (.slice o m co) m xs rfl ?hown zero9 rfl rfl ?c1 ?c2 ?c3 ?_); (case hown => exact HOW15.out); (case c1 => simp [Value.oneCell']); (case c2 => (unfold maxLen; omega)); (case c3 => omega); intro g4 c4 w4 ho4 hf4 hg4; obtain ⟨⟨p0, p1, p2, p3, p4, p5, p6, p7, p8⟩, r0, r1, r2, r3, r4, r5, r6, r7, r8⟩ := row9_facts (z0 := .int .i64 0) (z1 := .string ⟨#[]⟩) (z2 := .int .i64 0) (z3 := .int .i64 0) (z4 := .int .i64 0) (z5 := .slice none 0 0) (z6 := .slice none 0 0) (z7 := .int .i64 0) (z8 := .int .i64 0) HXL.out rfl ho4; have HO4 := Lib.hid ho4; have HF4 := Lib.hid hf4; have HG4 := Lib.hid hg4; clear ho4; obtain ⟨⟨ha1, ha2⟩, ⟨ha3, ha4⟩, hb4, hx4⟩ := freeDo_facts HOB.out HB0.out HLOW.out HZ0.out hob hf4 hg4; have co4 := cell_of_one hb4; have fo4 := free_of_one hb4; obtain ⟨⟨xx0, xx1, xx2, xx3, xx4, xx5, xx6, xx7, xx8⟩, _⟩ := block9 hx4; have HB4 := Lib.hid hb4; clear hb4 hx4 hf4 hg4)
       all_goals
        go_wp2_with fail
        go_meet
        first
          | with_reducible exact push_end1 HM.out HLN.out HO4.out HB4.out ha1 HF4.out HG4.out HHO.out HDD.out
          | with_reducible exact push_end2 HM.out HLN.out HO4.out HB4.out ha1 HF4.out HG4.out HHO.out HDD.out
          | with_reducible exact (push_end1 HM.out HLN.out HO4.out HB4.out ha1 HF4.out HG4.out HHO.out HDD.out).drew
          | with_reducible exact (push_end2 HM.out HLN.out HO4.out HB4.out ha1 HF4.out HG4.out HHO.out HDD.out).drew
      case rest =>
        rename World => wx
        obtain ⟨oq, cq, ys, hbq, hlq, hfq, hnq⟩ := hcut
        have hDB : ∀ k, D k → k < B := fun k hk => by
          rcases (HDD.out k).1 hk with h | h
          · omega
          · exact (HLOW.out k h).2
        have hxq := blk_fr hfq (fun h => by have := hDB _ h; omega) HB0.out
        have hrq := blk_fr hfq (fun h => by have := hDB _ h; omega) HB1.out
        have HBQ := Lib.hid hbq
        have HLQ := Lib.hid hlq
        have HFQ := Lib.hid hfq
        have HNQ := Lib.hid hnq
        have HRQ := Lib.hid hrq
        have HDB := Lib.hid hDB
        clear x0 x1 x2 x3 x4 x5 x6 x7 x8 y0 y1 y2 y3 y4 y5 y6 y7 y8 cob fob xa0 xa1 xa2 xa3 xa4 xa5 xa6 xa7 xa8 coA hbq hlq hfq hnq hDB
        obtain ⟨⟨x0, x1, x2, x3, x4, x5, x6, x7, x8⟩, _⟩ := block9 hxq
        obtain ⟨⟨z0, z1, z2, z3, z4, z5, z6, z7, z8⟩, t0, t1, t2, t3, t4, t5, t6, t7, t8⟩ := block9 hrq
        clear hxq hrq
        go_wp2_with fail
        have hff := put9_fr wx (B + 1) (.int .i64 h.k) (.string h.nm) (.int .i64 h.n) (.int .i64 h.tk) (.int .i64 h.tn) (.slice o1 l1 c1) (.slice o2 l2 c2) (.int .i64 h.fr) (.int .i64 h.en)
        have hbf := put9_block (a0 := .int .i64 h.k) (a1 := .string h.nm) (a2 := .int .i64 h.n) (a3 := .int .i64 h.tk) (a4 := .int .i64 h.tn) (a5 := .slice o1 l1 c1) (a6 := .slice o2 l2 c2) (a7 := .int .i64 h.fr) (a8 := .int .i64 h.en) HRQ.out
        change bodyPost _ _ _ _ _ (put9 wx (B + 1) (.int .i64 h.k) (.string h.nm) (.int .i64 h.n) (.int .i64 h.tk) (.int .i64 h.tn) (.slice o1 l1 c1) (.slice o2 l2 c2) (.int .i64 h.fr) (.int .i64 h.en))
        clear x0 x1 x2 x3 x4 x5 x6 x7 x8 z0 z1 z2 z3 z4 z5 z6 z7 z8 t0 t1 t2 t3 t4 t5 t6 t7 t8
        generalize put9 wx (B + 1) (.int .i64 h.k) (.string h.nm) (.int .i64 h.n) (.int .i64 h.tk) (.int .i64 h.tn) (.slice o1 l1 c1) (.slice o2 l2 c2) (.int .i64 h.fr) (.int .i64 h.en) = wf at *
        obtain ⟨⟨x0, x1, x2, x3, x4, x5, x6, x7, x8⟩, _⟩ := block9 hbf
        have HFIN : Hid (DoQ frS (fun x _ => x) (FJ ob) b s D e h o1 l1 c1 o2 l2 c2 A (.returned (tmv h o1 l1 c1 o2 l2 c2)) wf) := by
          have hz2 := HZ0.out
          have hB := HBE.out
          have hnk : ∀ k, (Value.slice oq (s ++ [h]).length cq).ownBlock = some k → k ≠ B + 1 := fun k hk => by
            rcases HNQ.out k hk with h | h
            · have := HDB.out k h; omega
            · omega
          refine ⟨rfl, fun k => k = ob ∨ (Value.slice oq (s ++ [h]).length cq).ownBlock = some k, ?_, ?_, ?_⟩
          · rw [HS.out]
            refine ⟨oq, cq, ys, blk_fr hff (by omega) HBQ.out, list_fr HLQ.out hff hnk, ?_, fun k => Iff.rfl⟩
            rw [List.length_append]; have := HM.out; simp only [List.length_cons, List.length_nil]; omega
          · exact ((HQ0.out.fr).trans HFQ.out).trans' hff (fun k hk h => by omega)
          · intro k hk
            rcases hk with h | h
            · exact .inl ((HDD.out k).2 (.inl h))
            · rcases HNQ.out k h with h | h
              · exact .inl h
              · exact .inr (by omega)
        clear hff hbf
        refine bodyPost_ret (by simp [results, Tryd.results72, go_sem, x0, x1, x2, x3, x4, x5, x6, x7, x8]; rfl) rfl ?_
        exact HFIN.out
    · have HS : Hid (frS s h e = s) := by show _ = _; unfold frS; rw [if_neg hx]
      generalize ix e h.nm = r at *
      go_enter Tryd.func72, Tryd.ntmps72
      go_upto_region 1 with fail
      rw [← hW0]
      clear hW0
      generalize hB : A.heap.size = B at *
      have HBE := Lib.hid hB
      clear hB
      obtain ⟨⟨x0, x1, x2, x3, x4, x5, x6, x7, x8⟩, y0, y1, y2, y3, y4, y5, y6, y7, y8⟩ := block9 HB0.out
      obtain ⟨⟨z0, z1, z2, z3, z4, z5, z6, z7, z8⟩, t0, t1, t2, t3, t4, t5, t6, t7, t8⟩ := block9 HB1.out
      go_wp2_with fail
      refine HI.out.mono ?_; rintro x w2 ⟨rfl, rfl⟩
      go_wp2_with fail
      have hff := put9_fr W0 (B + 1) (.int .i64 h.k) (.string h.nm) (.int .i64 h.n) (.int .i64 h.tk) (.int .i64 h.tn) (.slice o1 l1 c1) (.slice o2 l2 c2) (.int .i64 h.fr) (.int .i64 h.en)
      have hbf := put9_block (a0 := .int .i64 h.k) (a1 := .string h.nm) (a2 := .int .i64 h.n) (a3 := .int .i64 h.tk) (a4 := .int .i64 h.tn) (a5 := .slice o1 l1 c1) (a6 := .slice o2 l2 c2) (a7 := .int .i64 h.fr) (a8 := .int .i64 h.en) HB1.out
      change bodyPost _ _ _ _ _ (put9 W0 (B + 1) (.int .i64 h.k) (.string h.nm) (.int .i64 h.n) (.int .i64 h.tk) (.int .i64 h.tn) (.slice o1 l1 c1) (.slice o2 l2 c2) (.int .i64 h.fr) (.int .i64 h.en))
      clear x0 x1 x2 x3 x4 x5 x6 x7 x8 y0 y1 y2 y3 y4 y5 y6 y7 y8 z0 z1 z2 z3 z4 z5 z6 z7 z8 t0 t1 t2 t3 t4 t5 t6 t7 t8
      generalize put9 W0 (B + 1) (.int .i64 h.k) (.string h.nm) (.int .i64 h.n) (.int .i64 h.tk) (.int .i64 h.tn) (.slice o1 l1 c1) (.slice o2 l2 c2) (.int .i64 h.fr) (.int .i64 h.en) = wf at *
      obtain ⟨⟨x0, x1, x2, x3, x4, x5, x6, x7, x8⟩, _⟩ := block9 hbf
      have HFIN : Hid (DoQ frS (fun x _ => x) (FJ ob) b s D e h o1 l1 c1 o2 l2 c2 A (.returned (tmv h o1 l1 c1 o2 l2 c2)) wf) := by
        have hz2 := HZ0.out
        have hB := HBE.out
        refine ⟨rfl, D, ?_, (HQ0.out.fr).trans' hff (fun k hk h => by omega), fun k hk => .inl hk⟩
        rw [HS.out]
        exact ⟨o, co, xs, blk_fr hff (by omega) HOB.out, list_fr HLN.out hff (fun k hk e => by have := (HLA.out.1.lt k hk).2; omega), by omega, HD.out⟩
      clear hff hbf
      refine bodyPost_ret (by simp [results, Tryd.results72, go_sem, x0, x1, x2, x3, x4, x5, x6, x7, x8]; rfl) rfl ?_
      exact HFIN.out
end Sc
end Go.Proofs.YtnfodiedalhlhaaDoor
end
section
namespace Go.Proofs.YtnfodiedalhlhaaDoor
open Go.RowKit Go.Shelf
attribute [local go_sem] Oper.semAt_some
namespace Cn
abbrev intsV (l : List Int) : List Value := l.map (Value.int .i64)
structure UsW (ob wb : Nat) (out : List Int) (oo : Option Addr) (oc : Nat) (W : World) : Prop where
  o : W.heap[ob]? = some (.cells #[.slice oo out.length oc] 55 (0, 0))
  w : W.heap[wb]? = some (.cells #[.func (.func 61) #[] #[.pointer (some ⟨ob, 0, none⟩), .pointer (some ⟨wb, 0, none⟩)]] 83 (0, 0))
  row : W.ownsRow 0 3 1 (.slice oo out.length oc) out.length (intsV out)
  n1 : (Value.slice oo out.length oc).ownBlock ≠ some ob
  n2 : (Value.slice oo out.length oc).ownBlock ≠ some wb
  n3 : ob ≠ wb
theorem UsW.fr {ob wb : Nat} {out : List Int} {oo : Option Addr} {oc : Nat} {S : Nat → Prop} {W W' : World} (h : UsW ob wb out oo oc W) (hf : Fr S W W') (h1 : ¬ S ob) (h2 : ¬ S wb) (h3 : ∀ k, (Value.slice oo out.length oc).ownBlock = some k → ¬ S k) : UsW ob wb out oo oc W' :=
  ⟨blk_fr hf h1 h.o, blk_fr hf h2 h.w, ownsRow_fr h.row hf h3, h.n1, h.n2, h.n3⟩
theorem UsW.stay {ob wb : Nat} {out : List Int} {oo : Option Addr} {oc : Nat} {W W' : World} (h : UsW ob wb out oo oc W) (hq : Quiet0 W W') : UsW ob wb out oo oc W' := h.fr hq (fun h => h) (fun h => h) (fun _ _ h => h)
theorem UsW.lt {ob wb : Nat} {out : List Int} {oo : Option Addr} {oc : Nat} {W : World} (h : UsW ob wb out oo oc W) : ∀ k, (Value.slice oo out.length oc).ownBlock = some k → k < W.heap.size := fun k hk => (h.row.lt k hk).2
theorem UsW.bump {ob wb n : Nat} {out : List Int} {g oc : Nat} {W : World} (h : UsW ob wb out (some ⟨g, 0, none⟩) oc W) (x : Int) (hx : out[n]? = some x) : UsW ob wb (bump out n) (some ⟨g, 0, none⟩) oc (W.setCell ⟨g, n, none⟩ (.int .i64 (x + 1))) := by
  have hl : (Cn.bump out n).length = out.length := bump_length out n
  have hf := Fr.setCell (fun k => k = g) W ⟨g, n, none⟩ (.int .i64 (x + 1)) rfl
  have e1 : ob ≠ g := fun e => h.n1 (by rw [e]; rfl)
  have e2 : wb ≠ g := fun e => h.n2 (by rw [e]; rfl)
  refine ⟨by rw [hl]; exact blk_fr hf e1 h.o, blk_fr hf e2 h.w, ?_, by rw [hl]; exact h.n1, by rw [hl]; exact h.n2, h.n3⟩
  rw [hl]
  have hr := (h.row.stored n (.int .i64 (x + 1))).1
  have he : (intsV out).set n (.int .i64 (x + 1)) = intsV (Cn.bump out n) := by
    unfold intsV Cn.bump
    apply List.ext_getElem?
    intro i
    rw [List.getElem?_set, List.getElem?_map, List.getElem?_map, List.getElem?_modify]
    by_cases hi : n = i
    · subst hi
      simp only [hx, List.length_map, Option.map_some, if_true]
      rw [if_pos (List.getElem?_eq_some_iff.1 hx).1]; rfl
    · rw [if_neg hi]
      cases out[i]? with
      | none => rfl
      | some y => simp [hi]
  rw [← he]; exact hr
theorem findE_drop {e : Env} {i : Nat} {x : ByteArray × Int} (h : e[i]? = some x) (s : ByteArray) : findE (e.drop i) s = if x.1 = s then some x.2 else findE (e.drop (i + 1)) s := by
  obtain ⟨hk, hs⟩ := List.getElem?_eq_some_iff.1 h
  rw [List.drop_eq_getElem_cons hk, hs]; rfl
def UsQ (ob wb : Nat) (out' : List Int) (oo : Option Addr) (oc n : Nat) (W : World) (x : Ending) (W' : World) : Prop :=
  (∃ v, x = .returned v) ∧ ∃ oo' oc', UsW ob wb out' oo' oc' W' ∧ Fr (fun k => k = ob ∨ (Value.slice oo n oc).ownBlock = some k) W W' ∧ ∀ k, (Value.slice oo' out'.length oc').ownBlock = some k → (Value.slice oo n oc).ownBlock = some k ∨ W.heap.size ≤ k
def UI (ob wb B : Nat) (h : Nd) (o1 : Option Addr) (l1 c1 : Nat) (o2 : Option Addr) (l2 c2 : Nat) (out : List Int) (oo : Option Addr) (oc : Nat) (e : Env) (w : World) (i : Nat) (D : Nat → Prop) (W : World) : Prop :=
  (∀ j, D j ↔ (Value.slice oo out.length oc).ownBlock = some j) ∧ W.heap[B]? = some (.cells (cells9 h o1 l1 c1 o2 l2 c2) 30 (0, 0)) ∧ UsW ob wb out oo oc W ∧ Quiet0 w W ∧ findE e h.nm = findE (e.drop i) h.nm
theorem UI.fr {ob wb B : Nat} {h : Nd} {o1 : Option Addr} {l1 c1 : Nat} {o2 : Option Addr} {l2 c2 : Nat} {out : List Int} {oo : Option Addr} {oc : Nat} {e : Env} {w : World} {i : Nat} {D S : Nat → Prop} {W W' : World} (k : UI ob wb B h o1 l1 c1 o2 l2 c2 out oo oc e w i D W) (hf : Fr S W W') (hS : ∀ k, k < w.heap.size → ¬ S k) (hB : ¬ S B)
    (h1 : ob < w.heap.size) (h2 : wb < w.heap.size) (h3 : ∀ k, (Value.slice oo out.length oc).ownBlock = some k → k < w.heap.size) : UI ob wb B h o1 l1 c1 o2 l2 c2 out oo oc e w i D W' :=
  ⟨k.1, blk_fr hf hB k.2.1, k.2.2.1.fr hf (hS _ h1) (hS _ h2) (fun j hj => hS _ (h3 j hj)), Fr.trans' k.2.2.2.1 hf (fun j hj hs => hS j hj hs), k.2.2.2.2⟩
set_option maxHeartbeats 4000000 in
set_option maxRecDepth 100000 in
theorem uses_var (h : Nd) (ps : To) (hk : h.k = 1) (w : World) (T : Nat → Prop) (ob wb : Nat) (o1 : Option Addr) (l1 c1 : Nat) (o2 : Option Addr) (l2 c2 : Nat) (eo : Option Addr) (en ec : Nat) (e : Env) (out : List Int) (oo : Option Addr) (oc m : Nat)
    (hB : BnIn T w eo en e) (hz : en ≤ 1000000) (he : EnvP e out.length) (ho : OutB out m) (hm : m ≤ 1000000) (_ : out.length ≤ 1000000) (hU : UsW ob wb out oo oc w) (hT : ∀ k, T k → (Value.slice oo out.length oc).ownBlock ≠ some k) :
    Calls Tryd.prog 61 #[tmv h o1 l1 c1 o2 l2 c2, .slice eo en ec, .pointer (some ⟨ob, 0, none⟩), .pointer (some ⟨wb, 0, none⟩)] w (UsQ ob wb (usesU h ps e out) oo oc out.length w) := by
  have HV : Hid (usesU h ps e out = varU e h.nm out) := by show oneU h _ e out = _; unfold oneU; rw [if_pos hk]
  rw [HV.out]
  have k1 : (h.k == 1) = true := by simp [hk]
  have hobl := lt_of_block hU.o
  have hwbl := lt_of_block hU.w
  have hown := hU.lt
  refine (callsIn_wide (n := 5)).1 ?_
  unfold tmv
  refine callsIn_of_wp_marks Tryd.func61 rfl trivial ?_ rfl
  simp only [Tryd.ntmps61, List.size_toArray, List.length_cons, List.length_nil, Nat.reduceAdd, Nat.reduceSub, Array.replicate_succ, Array.replicate_zero, List.push_toArray, List.append_toArray, List.nil_append, List.cons_append]
  have HC := fun W => (callsIn_wide (n := 4)).2 (back_call eo en ec W)
  have HEE := Lib.hid he
  have HOB := Lib.hid ho
  have HBN := Lib.hid hB
  have HTT := Lib.hid hT
  have HU := Lib.hid hU
  have hbx := cells9_new w h o1 l1 c1 o2 l2 c2 30
  obtain ⟨a0, a1, a2, a3, a4, a5, a6, a7, a8⟩ := hbx
  clear hk he ho hB hT hU HV
  gi_wp2_with (fail)
  refine ⟨trivial, (HC _).mono ?_⟩; rintro x W2' ⟨rfl, hW2⟩
  obtain ⟨W1, hW1⟩ : ∃ W1, W1 = w.alloc (.cells (cells9 h o1 l1 c1 o2 l2 c2) 30) := ⟨_, rfl⟩
  have hz1 : W1.heap.size = w.heap.size + 1 := by rw [hW1]; simp
  have hq1 : Quiet0 w W1 := by rw [hW1]; exact Quiet0.alloc _ _
  have hW2' : W2' = W1.alloc (.cells #[.slice eo en ec] 84) := by rw [hW1]; exact hW2
  have hb1 : W1.heap[w.heap.size]? = some (.cells (cells9 h o1 l1 c1 o2 l2 c2) 30 (0, 0)) := by rw [hW1]; exact heap_alloc_new w _
  have hq12 : Quiet0 W1 W2' := by rw [hW2']; exact Quiet0.alloc _ _
  have hq2 : Quiet0 w W2' := hq1.trans hq12
  have htb : W2'.heap[W1.heap.size]? = some (.cells #[.slice eo en ec] 84 (0, 0)) := by rw [hW2']; exact heap_alloc_new W1 _
  have hz2 : W2'.heap.size = w.heap.size + 2 := by rw [hW2']; simp; omega
  have hseq := back_seq (5 - 1) (fun k => (T k ∧ k < w.heap.size) ∨ k = W1.heap.size) e eo en ec W1.heap.size W2' (fun k hk => by omega) htb (.inr rfl) ((HBN.out.mono (T' := fun k => (T k ∧ k < w.heap.size) ∨ k = W1.heap.size) (fun k hk ht => .inl ⟨ht, hk⟩)).stay hq2) hz
  rw [hz1] at hseq
  have HSEQ := Lib.hid hseq
  have HST : Hid (UI ob wb w.heap.size h o1 l1 c1 o2 l2 c2 out oo oc e w 0 (fun j => (Value.slice oo out.length oc).ownBlock = some j) W2') := ⟨fun j => Iff.rfl, blk_after hq12 hb1, HU.out.stay hq2, hq2, by simp⟩
  clear hW1 hW2 hW2' hq1 hb1 hq2 htb hseq HC hq12 a0 a1 a2 a3 a4 a5 a6 a7 a8
  gi_wp2_with (fail)
  refine wpIn_range_c (w := W2') rfl (enters_of Tryd.func93 (by kernel_rfl) rfl) HSEQ.out (fun k hk => by omega) (Fr.refl _ _) (fun i x va W he => encB_size he)
    (UI ob wb w.heap.size h o1 l1 c1 o2 l2 c2 out oo oc e w)
    (fun i x a' D W => UI ob wb w.heap.size h o1 l1 c1 o2 l2 c2 out oo oc e w i D W ∧ ∃ (xb : Nat) (t17 t18 : Value), W.heap[xb]? = some (.cells #[.string x.1, .int .i64 x.2] 89 (0, 0)) ∧ xb ≠ W2'.heap.size + 1 ∧ xb ≠ w.heap.size ∧ (Value.slice oo out.length oc).ownBlock ≠ some xb ∧ a' = { tmps := #[.agg #[.int .i64 h.k, .string h.nm, .int .i64 h.n, .int .i64 h.tk, .int .i64 h.tn, .slice o1 l1 c1, .slice o2 l2 c2, .int .i64 h.fr, .int .i64 h.en], .slice eo en ec, .pointer (some ⟨ob, 0, none⟩), .pointer (some ⟨wb, 0, none⟩), .pointer (some ⟨w.heap.size, 0, none⟩), undef, undef, .pointer (some ⟨xb, 0, none⟩), undef, undef, undef, undef, .pointer (some ⟨w.heap.size, 0, none⟩), .int .i64 h.k, .bool true, .slice eo en ec, .func (.func 93) #[] #[.pointer (some ⟨w.heap.size + 1, 0, none⟩)], t17, t18, undef, undef, undef, undef, undef, undef, undef, undef, undef, undef, undef, undef, undef, undef, undef, undef, undef, undef, undef, undef, undef, undef, undef, undef, undef, undef, undef, undef, undef, undef, undef, undef, undef, undef, undef, undef, undef, undef, undef, undef, undef, undef, undef, undef, undef, undef, undef, undef, undef, undef, undef, undef, undef, undef, undef, undef, undef, undef, undef, undef, undef, undef], defers := [] })
    (fun c W => c = .exit 0 ∧ UsW ob wb (varU e h.nm out) oo oc W ∧ Fr (fun k => k = ob ∨ (Value.slice oo out.length oc).ownBlock = some k) w W) (fun j => (Value.slice oo out.length oc).ownBlock = some j) ?own ?stay ?stayM ?stayX ?start ?assign ?body ?done ?stop
  case own =>
    rintro i D A hI k hk
    have e1 := (hI.1 k).1 hk
    have h2 := hown k e1
    have h3 := hI.2.2.2.1.size
    exact ⟨by omega, fun h => by
      rcases h with h | h
      · exact HTT.out k h.1 e1
      · omega, .inl (by omega)⟩
  case stay =>
    rintro i D A B hI hf
    refine hI.fr hf (fun k hk h => by have := h.1; omega) (fun h => by have := h.1; omega) hobl hwbl hown
  case stayM =>
    rintro i x a' D A B ⟨hI, xb, t17, t18, hxb, hne, hne2, hne3, ha⟩ hf
    exact ⟨hI.fr hf (fun k hk h => by omega) (by omega) hobl hwbl hown, xb, t17, t18, blk_fr hf hne hxb, hne, hne2, hne3, ha⟩
  case stayX =>
    rintro c A B ⟨hc, hu, hq⟩ hf
    have hlo : ∀ k, (Value.slice oo (varU e h.nm out).length oc).ownBlock = some k → k < w.heap.size := by rw [varU_length]; exact hown
    exact ⟨hc, hu.fr hf (by omega) (by omega) (fun k hk h => by have := hlo k hk; omega), hq.trans' hf (fun k hk h => by omega)⟩
  case start => exact HST.out
  case assign =>
    rintro l i y va D W K hx hva hI hWs hK
    unfold EncB at hva
    subst hva
    have hq := Quiet0.alloc W (.cells #[.string y.1, .int .i64 y.2] 89)
    have hnew := heap_alloc_new W (.cells #[.string y.1, .int .i64 y.2] 89)
    have hne : W.heap.size ≠ W2'.heap.size + 1 := by omega
    have hne3 : (Value.slice oo out.length oc).ownBlock ≠ some W.heap.size := fun e => by have := hown _ e; have := hI.2.2.2.1.size; omega
    have hne2 : W.heap.size ≠ w.heap.size := by omega
    have hI2 := hI.fr (S := fun _ => False) hq (fun _ _ h => h) (fun h => h) hobl hwbl hown
    clear hI hWs
    gi_wp2
    exact hK _ _ ⟨hI2, W.heap.size, .int .i64 ((en : Int) - 1 - i), .agg #[.string y.1, .int .i64 y.2], hnew, hne, hne2, hne3, by simp⟩ hq
  case body =>
    rintro l i y a' D W hx ⟨hI, xb, t17, t18, hxb, hne, hne2, hne3, rfl⟩ hW
    have a0 : W.cell? ⟨xb, 0, none⟩ = some (.string y.1) := by rw [cell_of_row _ _ _ _ _ (0, 0) hxb]; rfl
    have a1 : W.cell? ⟨xb, 1, none⟩ = some (.int .i64 y.2) := by rw [cell_of_row _ _ _ _ _ (0, 0) hxb]; rfl
    have b1 := (cells9_block hI.2.1).2.1
    have co := cell_of_one hI.2.2.1.o
    have hst := hI.2.2.2.2
    rw [findE_drop hx] at hst
    by_cases hik : y.1 = h.nm
    · have hbe : (y.1.toList == h.nm.toList) = true := by rw [hik]; simp
      rw [if_pos hik] at hst
      obtain ⟨yp, hyl⟩ := HEE.out y (List.mem_of_getElem? hx)
      obtain ⟨n, hn⟩ : ∃ n : Nat, y.2 = n := ⟨y.2.toNat, by omega⟩
      have hnl : n < out.length := by omega
      obtain ⟨v, hv⟩ : ∃ v, out[n]? = some v := ⟨_, List.getElem?_eq_getElem hnl⟩
      have hvb := HOB.out v (List.mem_of_getElem? hv)
      have HI := Lib.hid hI
      have HS : Hid (varU e h.nm out = bump out n) := by show _ = _; unfold varU; rw [hst, hn]; rfl
      have hr0 := hI.2.2.1.row
      have hoo : ∃ g, oo = some ⟨g, 0, none⟩ := by
        rcases hr0.2 with ⟨_, h0⟩ | ⟨g, cap, cur, he, _⟩
        · omega
        · injection he with h1 _ _; exact ⟨g, h1⟩
      obtain ⟨g, rfl⟩ := hoo
      have c0 : W.cell? ⟨g, n, none⟩ = some (.int .i64 v) := by rw [hr0.cellAt n (by omega)]; unfold intsV; rw [List.getElem?_map, hv]; rfl
      have z0 := hr0.frozenAt n
      have e1 : IntKind.i64.wrap (v + 1) = v + 1 := IntWalk.i64_in _ (by omega)
      rw [hn] at a1
      have hi1 : (0 : Int) ≤ (n : Int) := by omega
      have hi2 : (n : Int) < out.length := by omega
      have HVV := Lib.hid hv
      clear hI hst hx hik hxb hr0 hv hvb hn yp hyl
      gi_wp2
      have hfs := Fr.setCell (fun k => (Value.slice (some ⟨g, 0, none⟩) out.length oc).ownBlock = some k) W ⟨g, n, none⟩ (.int .i64 (v + 1)) rfl
      exact ⟨⟨rfl, by rw [HS.out]; exact HI.out.2.2.1.bump v HVV.out, HI.out.2.2.2.1.fr.trans (hfs.mono (fun k _ h => .inr h))⟩, hfs.mono (fun k _ e => (HI.out.1 k).2 e)⟩
    · have hbe : (y.1.toList == h.nm.toList) = false := by
        cases hx : (y.1.toList == h.nm.toList)
        · rfl
        · exact absurd (Sc.str_eq.1 hx) hik
      rw [if_neg hik] at hst
      have HI := Lib.hid hI
      have HS := Lib.hid hst
      clear hI hst hx hik hxb
      gi_wp2
      exact ⟨D, ⟨HI.out.1, HI.out.2.1, HI.out.2.2.1, HI.out.2.2.2.1, HS.out⟩, Fr.refl _ _, fun k hk => .inl hk⟩
  case done =>
    rintro D W hI hdef
    have hst := hI.2.2.2.2
    rw [List.drop_length] at hst
    have HS : Hid (varU e h.nm out = out) := by show _ = _; unfold varU; rw [hst]; rfl
    have HI := Lib.hid hI
    clear hI hst
    gi_wp2
    refine ⟨by simp, .inl ⟨_, _, rfl, run_takeDeferred hdef, ?_⟩⟩
    have hfp := Fr.putObj (fun k => k = W2'.heap.size) W W2'.heap.size (.deferred none) rfl
    refine ⟨_, by first | (simp [results, Tryd.results61, go_sem]; done) | (simp [results, Tryd.results61, go_sem]; rfl), ⟨_, rfl⟩, oo, oc, ?_, ?_, ?_⟩
    · rw [HS.out]; exact HI.out.2.2.1.fr hfp (by omega) (by omega) (fun k hk h => by have := hown k hk; omega)
    · exact HI.out.2.2.2.1.fr.trans' hfp (fun k hk h => by omega)
    · rw [HS.out]; exact fun k hk => .inl hk
  case stop =>
    rintro c W ⟨rfl, hu, hq⟩ hdef
    have HU2 := Lib.hid hu
    have HQ2 := Lib.hid hq
    clear hu hq
    gi_wp2
    refine ⟨by simp, .inl ⟨_, _, rfl, run_takeDeferred hdef, ?_⟩⟩
    have hfp := Fr.putObj (fun k => k = W2'.heap.size) W W2'.heap.size (.deferred none) rfl
    have hlo : ∀ k, (Value.slice oo (varU e h.nm out).length oc).ownBlock = some k → k < w.heap.size := by rw [varU_length]; exact hown
    refine ⟨_, by first | (simp [results, Tryd.results61, go_sem]; done) | (simp [results, Tryd.results61, go_sem]; rfl), ⟨_, rfl⟩, oo, oc, ?_, ?_, ?_⟩
    · exact HU2.out.fr hfp (by omega) (by omega) (fun k hk h => by have := hlo k hk; omega)
    · exact HQ2.out.trans' hfp (fun k hk h => by omega)
    · rw [varU_length]; exact fun k hk => .inl hk
end Cn
end Go.Proofs.YtnfodiedalhlhaaDoor
end
