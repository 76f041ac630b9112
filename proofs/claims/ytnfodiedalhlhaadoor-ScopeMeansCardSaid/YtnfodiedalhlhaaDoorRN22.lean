/-
  Texts laid together (TeCopyO, ScAwake, TeEqual, TeRoom, Law, TyOpen): laws and walks, with their conditions in their statements.
-/
import Derived.ProofKit
import Derived.OpenShut
import Derived.Deep.Slices
import Derived.Test.YtnfodiedalhlhaaDoorRows
import Derived.Test.YtnfodiedalhlhaaDoorRN18
section
namespace Go.Proofs.YtnfodiedalhlhaaDoor
open Go.RowKit
def CopyOQ (h : Nd) (ps : To) (w : World) (l1 l2 : Nat) (e : Ending) (w' : World) : Prop := ∃ p1 d1 p2 d2 T, e = .returned (tmv h p1 l1 d1 p2 l2 d2) ∧ SlcIn T w' p1 l1 h.tp ∧ TO T w' (fun k => w.heap.size ≤ k ∧ k < w'.heap.size ∧ ¬ T k) p2 l2 ps ∧ (∀ k, T k → w.heap.size ≤ k ∧ k < w'.heap.size) ∧ Quiet0 w w'
def TCopyO (h : Nd) (ps : To) : Prop := ∀ (w : World) (R : Nat → Prop) (o1 : Option Addr) (l1 c1 : Nat) (o2 : Option Addr) (l2 c2 : Nat), SlcIn R w o1 l1 h.tp → TSlc R w o2 l2 ps → h.tp.size ≤ 1000000 → allT (fun h => h.tp.size ≤ 1000000) ps → ps.size ≤ 1000000 →
  Calls Tryd.prog 51 #[tmv h o1 l1 c1 o2 l2 c2] w (CopyOQ h ps w l1 l2)
set_option maxRecDepth 100000 in
set_option maxHeartbeats 4000000 in
theorem copyO_any (h : Nd) (ps : To) : TCopyO h ps := by
  refine To.ind' (T := TCopyO) ?_ h ps
  intro h ps ih w R o1 l1 c1 o2 l2 c2 hs1 hs htz hats hsz
  have HS := Lib.hid hs
  have IH := Lib.hid ih
  have HL := Lib.hid hs.1
  have HA := Lib.hid hats
  have hmx := hs.2.1
  have hll := To.length_le ps
  rw [← hs.1] at hll
  unfold maxLen at hmx
  obtain ⟨W0, hW0⟩ : ∃ W0, W0 = (w.alloc (.cells (cells9 h o1 l1 c1 o2 l2 c2) 30)).alloc (.cells zero9 30) := ⟨_, rfl⟩
  have HQ0 : Hid (Quiet0 w W0) := by rw [hW0]; exact (Quiet0.alloc _ _).trans (Quiet0.alloc _ _)
  have HCT := Lib.hid (copy_any h.tk h.tn h.tp W0 o1 l1 c1 (hs1.slc.stay HQ0.out) htz)
  have hz0 : w.heap.size + 2 ≤ W0.heap.size := by rw [hW0]; simp
  have HB0 : Hid (W0.heap[w.heap.size]? = some (.cells (cells9 h o1 l1 c1 o2 l2 c2) 30 (0, 0))) := by
    show _ = _; rw [hW0, Below.heap_alloc _ _ _ (by simp)]; exact heap_alloc_new w _
  have HB1 : Hid (W0.heap[w.heap.size + 1]? = some (.cells zero9 30 (0, 0))) := by
    show _ = _; rw [hW0]
    have := heap_alloc_new (w.alloc (.cells (cells9 h o1 l1 c1 o2 l2 c2) 30)) (.cells zero9 30)
    simpa using this
  clear hs ih hats hs1
  unfold tyv at HCT
  unfold tmv
  go_enter Tryd.func51, Tryd.ntmps51
  go_wp2_with fail
  change Calls _ _ _ ((w.alloc (.cells (cells9 h o1 l1 c1 o2 l2 c2) 30)).alloc (.cells zero9 30)) _
  rw [← hW0]
  refine HCT.out.mono ?_; rintro e w1 ⟨q1, e1, rfl, hsl1, hq1⟩
  have HSL1 := Lib.hid hsl1
  have hb0 := (hq1.block _ (by omega) (fun h => h)).trans HB0.out
  have hb1 := (hq1.block _ (by omega) (fun h => h)).trans HB1.out
  have HQ1 := Lib.hid hq1
  have hz1 : W0.heap.size ≤ w1.heap.size := hq1.size
  clear hW0 hq1 hsl1 HB0 HB1 HCT
  have HB0 := Lib.hid hb0
  have HB1 := Lib.hid hb1
  obtain ⟨⟨x0, x1, x2, x3, x4, x5, x6, x7, x8⟩, y0, y1, y2, y3, y4, y5, y6, y7, y8⟩ := block9 hb0
  clear hb0 hb1
  generalize hB : w.heap.size = B at *
  have HBE := Lib.hid hB
  clear hB
  go_wp2_with fail
  obtain ⟨W1, hW1⟩ : ∃ W1, W1 = putT w1 B (.int .i64 h.tk) (.int .i64 h.tn) (.slice q1 l1 e1) := ⟨_, rfl⟩
  change Code.wp _ _ _ _ (putT w1 B (.int .i64 h.tk) (.int .i64 h.tn) (.slice q1 l1 e1))
  have hz2 : W1.heap.size = w1.heap.size := by rw [hW1]; simp [putT, World.setCell]
  have HQW : Hid (Quiet0 w W1) := by
    rw [hW1]
    exact (HQ0.out.trans HQ1.out).trans' (putT_fr _ _ _ _ _) (fun i hi h => by have := HBE.out; omega)
  have HSLW : Hid (SlcIn (fun b => W0.heap.size ≤ b ∧ b < W1.heap.size) W1 q1 l1 h.tp) := by
    rw [hW1]
    exact HSL1.out.fr (putT_fr _ _ _ _ _) (fun k hk1 hk => ⟨⟨hk, Nat.lt_of_lt_of_le hk1 (putT_fr _ _ _ _ _).size⟩, fun h => by have hk' : W0.heap.size ≤ k := hk; omega⟩)
  replace HB0 : Hid (W1.heap[B]? = some (.cells (cells9 h q1 l1 e1 o2 l2 c2) 30 (0, 0))) := by
    rw [hW1]; exact putT_block HB0.out
  replace HB1 : Hid (W1.heap[B + 1]? = some (.cells zero9 30 (0, 0))) := by
    rw [hW1]
    exact ((putT_fr w1 B _ _ _).block _ (by omega) (fun h => by omega)).trans HB1.out
  rw [← hW1]
  clear hW1 x0 x1 x2 x3 x4 x5 x6 x7 x8 y0 y1 y2 y3 y4 y5 y6 y7 y8 HSL1 HQ1 HQ0
  go_loopw [3, 13] (fun v t wr => ∃ (i : Nat) (f : To) (xs : List Value) (vo : Option Addr) (vc : Nat) (T : Nat → Prop) (E : Nat → Nat → Prop), t = .int .i64 i ∧ i ≤ l2 ∧ v = .slice vo i vc ∧ f.length = i ∧ f.app (ps.drop i) = ps ∧ TmRowO T wr W1.heap.size (.slice vo i vc) f xs E ∧ (∀ k, W0.heap.size ≤ k → k < W1.heap.size → T k) ∧ (∀ k, T k → W0.heap.size ≤ k) ∧ Quiet0 W1 wr) (fun _ t _ => l2 - (intOf t).toNat)
  case atStart => exact ⟨0, .nil, [], none, 0, (fun k => W0.heap.size ≤ k ∧ k < W1.heap.size), _, rfl, Nat.zero_le _, rfl, rfl, by rw [To.drop_zero]; rfl, TmRowO.nil _ _ (fun k hk => hk.2), fun k h1 h2 => ⟨h1, h2⟩, fun k hk => hk.1, Quiet0.refl _⟩
  case round =>
    obtain ⟨i, f, xs, vo, vc, T, E, rfl, hi, rfl, hfl, hap, hrow, ht1, ht2, hq⟩ := hrel
    have HT1 := Lib.hid ht1
    have HT2 := Lib.hid ht2
    have HF := Lib.hid hfl
    have HAP := Lib.hid hap
    have HR := Lib.hid hrow
    have HQ := Lib.hid hq
    clear hfl hap hrow hq ht1 ht2
    by_cases hlt : i < l2
    · have hlt' : (i : Int) < l2 := by omega
      obtain ⟨b, off, hd, qs, u1, v1, t1, u2, v2, t2, rfl, hdr, hg, hRb, ⟨f0, f1, f2, f3, f4, f5, f6, f7, f8⟩, hsl, hts⟩ := (HS.out.stay (HQW.out.trans HQ.out)).nth hlt
      have hsq := To.size_get ps i hd qs hg
      have hna := allT_get ps i hd qs HA.out hg
      obtain ⟨w2, hw2⟩ : ∃ w2, w2 = wr.alloc (.cells (cells9 hd u1 v1 t1 u2 v2 t2) 30) := ⟨_, rfl⟩
      have hqw2 : Quiet0 wr w2 := by rw [hw2]; exact Quiet0.alloc _ _
      have HC := Lib.hid (IH.out i hd qs hg w2 R u1 v1 t1 u2 v2 t2 (hsl.stay hqw2) (hts.stay hqw2) hna.1 hna.2 (by omega))
      have HQA := Lib.hid hqw2
      have HD : Hid ((f.app (.cons hd qs .nil)).app (ps.drop (i + 1)) = ps) := by
        show _ = _
        conv => rhs; rw [← HAP.out, hdr]
        rw [To.app_assoc]; rfl
      unfold tmv at HC
      clear hdr hg hsl hts hsq hRb hna hqw2
      go_wp2_with fail
      change Calls _ _ _ (wr.alloc (.cells (cells9 hd u1 v1 t1 u2 v2 t2) 30)) _
      rw [← hw2]
      refine HC.out.mono ?_; rintro e w3 ⟨n1, m1, n2, m2, T3, rfl, hk1, hk2, hk3, hq3⟩
      have HK3 := Lib.hid hk3
      have HK1 := Lib.hid hk1
      have HK2 := Lib.hid hk2
      have HQ3 := Lib.hid (HQA.out.trans hq3)
      have HQ4 := Lib.hid hq3
      have HR1 := Lib.hid (HR.out.stay HQ3.out)
      have HOW : Hid (w3.ownsRow 0 30 9 (.slice vo i vc) i xs) := by have ho := HR1.out.own; rw [HF.out] at ho; exact ho
      clear hk1 hk2 hk3 hq3 hw2
      unfold tmv
      go_wp2_with (at_builtin; go_must (refine wpList_append_one w3 rfl (.tmp 17) (.tmp 20) 26 rfl 30 _ 9 112 elemTm (.slice vo i vc) i xs rfl HOW.out (cells9 hd n1 v1 m1 n2 v2 m2) rfl rfl ?c1 ?c2 ?c3 ?_))
      case c1 => simp [Value.oneCell']
      case c2 => unfold maxLen; omega
      case c3 => omega
      intro g2 c' w4 ho hf hg2
      have hw2s : wr.heap.size ≤ w2.heap.size := HQA.out.size
      have hz3 : w2.heap.size ≤ w3.heap.size := HQ4.out.size
      have HR2 : Hid (TmRowO (fun k => T k ∨ T3 k) w4 W1.heap.size (.slice (some ⟨g2, 0, none⟩) (i + 1) c') (f.app (.cons hd qs .nil)) (xs ++ (cells9 hd n1 v1 m1 n2 v2 m2).toList) (fun j k => (j < f.length ∧ E j k) ∨ (j = f.length ∧ (w2.heap.size ≤ k ∧ k < w3.heap.size ∧ ¬ T3 k)))) := by
        show TmRowO _ _ _ _ _ _ _
        have hf' := HF.out
        subst hf'
        exact TmRowO.snoc HR.out HQ.out.size HQ3.out (HK1.out.mono (fun k _ hk => .inr hk)) ((HK2.out.mono (T := fun k => T k ∨ T3 k) (fun k _ hk => .inr hk) (fun k _ hk => hk)).weak (fun k hk => hk.1)) (fun k hk => ⟨by have := HK3.out k hk; omega, (HK3.out k hk).2, fun h => h.2.2 hk⟩) (fun k hk => ⟨by have := hk.1; omega, hk.2.1⟩) ho hf hg2
      have HT3 : Hid (∀ k, W0.heap.size ≤ k → k < W1.heap.size → (T k ∨ T3 k)) := fun k h1 h2 => .inl (HT1.out k h1 h2)
      have HT4 : Hid (∀ k, (T k ∨ T3 k) → W0.heap.size ≤ k) := fun k hk => by
        rcases hk with h | h
        · exact HT2.out k h
        · have := (HK3.out k h).1; have := HQ.out.size; omega
      have HQ2 : Hid (Quiet0 W1 w4) := by
        show Quiet0 _ _
        exact Fr.trans' (HQ.out.trans HQ3.out) hf (fun kk hkk h => absurd (HR.out.low kk h).1 (by omega))
      have HL2 : Hid ((f.app (.cons hd qs .nil)).length = i + 1) := by
        show _ = _
        rw [To.app_length, HF.out]; rfl
      clear ho hf hg2
      go_wp2_with fail
      go_roundw
      case rel => exact ⟨i + 1, _, _, some ⟨g2, 0, none⟩, c', _, _, by go_num, by omega, rfl, HL2.out, HD.out, HR2.out, HT3.out, HT4.out, HQ2.out⟩
      case measure => simp [intOf]; omega
    · have hlt' : ¬ (i : Int) < l2 := by omega
      have hb1 := (HQ.out.block _ (by omega) (fun h => h)).trans HB1.out
      have hb0 := (HQ.out.block _ (by omega) (fun h => h)).trans HB0.out
      have hb0' := set_block (i := 6) (u := .slice vo i vc) hb0
      have hil : i = l2 := by omega
      subst hil
      obtain ⟨⟨x0, x1, x2, x3, x4, x5, x6, x7, x8⟩, y0, y1, y2, y3, y4, y5, y6, y7, y8⟩ := block9 hb0
      obtain ⟨⟨z0, z1, z2, z3, z4, z5, z6, z7, z8⟩, t0, t1, t2, t3, t4, t5, t6, t7, t8⟩ := block9 hb1
      have HB0 := Lib.hid hb0
      have HB1 := Lib.hid hb1
      clear hb0 hb1
      go_wp2_with fail
      have hb1' : (wr.setCell ⟨B, 6, none⟩ (.slice vo i vc)).heap[B + 1]? = some (.cells zero9 30 (0, 0)) := by
        rw [Below.heap_setCell _ _ _ _ (by show B + 1 ≠ B; omega)]; exact HB1.out
      have hff : Fr (fun k => k = B ∨ k = B + 1) wr (put9 (wr.setCell ⟨B, 6, none⟩ (.slice vo i vc)) (B + 1) (.int .i64 h.k) (.string h.nm) (.int .i64 h.n) (.int .i64 h.tk) (.int .i64 h.tn) (.slice q1 l1 e1) (.slice vo i vc) (.int .i64 h.fr) (.int .i64 h.en)) :=
        (Fr.setCell _ _ _ _ (.inl rfl)).trans ((put9_fr _ _ _ _ _ _ _ _ _ _ _).mono (fun k _ hk => .inr hk))
      have hbf := put9_block (a0 := .int .i64 h.k) (a1 := .string h.nm) (a2 := .int .i64 h.n) (a3 := .int .i64 h.tk) (a4 := .int .i64 h.tn) (a5 := .slice q1 l1 e1) (a6 := .slice vo i vc) (a7 := .int .i64 h.fr) (a8 := .int .i64 h.en) hb1'
      change bodyPost _ _ _ _ _ (put9 (wr.setCell ⟨B, 6, none⟩ (.slice vo i vc)) (B + 1) (.int .i64 h.k) (.string h.nm) (.int .i64 h.n) (.int .i64 h.tk) (.int .i64 h.tn) (.slice q1 l1 e1) (.slice vo i vc) (.int .i64 h.fr) (.int .i64 h.en))
      clear x0 x1 x2 x3 x4 x5 x6 x7 x8 y0 y1 y2 y3 y4 y5 y6 y7 y8 z0 z1 z2 z3 z4 z5 z6 z7 z8 t0 t1 t2 t3 t4 t5 t6 t7 t8 hb0' hb1'
      generalize (put9 (wr.setCell ⟨B, 6, none⟩ (.slice vo i vc)) (B + 1) (.int .i64 h.k) (.string h.nm) (.int .i64 h.n) (.int .i64 h.tk) (.int .i64 h.tn) (.slice q1 l1 e1) (.slice vo i vc) (.int .i64 h.fr) (.int .i64 h.en)) = wf at *
      obtain ⟨⟨x0, x1, x2, x3, x4, x5, x6, x7, x8⟩, _⟩ := block9 hbf
      have HFIN : Hid (SlcIn T wf q1 l1 h.tp ∧ TO T wf (fun k => w.heap.size ≤ k ∧ k < wf.heap.size ∧ ¬ T k) vo i ps ∧ (∀ k, T k → w.heap.size ≤ k ∧ k < wf.heap.size) ∧ Quiet0 w wf) := by
        have hz := HBE.out
        have hap := HAP.out
        rw [To.drop_end ps i (by have := HL.out; omega), To.app_nil] at hap
        have hqs := HQ.out.size
        have hfs := hff.size
        refine ⟨(HSLW.out.stay HQ.out).fr hff (fun k hk' hk => ?_), ?_, fun k hk => ?_, ?_⟩
        · exact ⟨HT1.out k hk.1 hk.2, fun h => by have := hk.1; omega⟩
        · have h1 := HR.out.to HF.out.symm (by unfold maxLen; omega)
          have h2 := h1.fr hff (T := T) (fun k _ hk => ⟨hk, fun h => by have := HT2.out k hk; omega⟩) (fun k hk h => by have := hk.1; omega)
          have h3 := h2.mono (T := T) (D' := fun k => w.heap.size ≤ k ∧ ¬ T k) (fun k _ hk => hk) (fun k _ hk => ⟨by have := hk.1; omega, hk.2⟩)
          rw [← hap]
          exact h3.weak (fun k hk => ⟨hk.1.1, hk.2, hk.1.2⟩)
        · have := HT2.out k hk; have := HR.out.old k hk; omega
        · exact (HQW.out.trans HQ.out).trans' hff (fun i hi h => by omega)
      have HFQ : Hid (CopyOQ h ps w l1 i (.returned (.agg #[.int .i64 h.k, .string h.nm, .int .i64 h.n, .int .i64 h.tk, .int .i64 h.tn, .slice q1 l1 e1, .slice vo i vc, .int .i64 h.fr, .int .i64 h.en])) wf) := ⟨q1, e1, vo, vc, T, rfl, HFIN.out⟩
      clear HFIN hff hbf
      refine bodyPost_ret (by simp [results, Tryd.results51, go_sem, x0, x1, x2, x3, x4, x5, x6, x7, x8]; rfl) rfl ?_
      exact HFQ.out
end Go.Proofs.YtnfodiedalhlhaaDoor
end
section
namespace Go.Proofs.YtnfodiedalhlhaaDoor
open Go.RowKit Go.Shelf
namespace Sc
abbrev xN : Nd := ⟨1, ⟨#[120]⟩, 0, 0, 0, .nil, 0, 0⟩
abbrev xN1 : Nd := ⟨1, ⟨#[120]⟩, 1, 0, 0, .nil, 0, 0⟩
abbrev lamY : Nd := ⟨4, ⟨#[121]⟩, 0, 0, 0, .nil, 0, 0⟩
abbrev lamX : Nd := ⟨4, ⟨#[120]⟩, 0, 0, 0, .nil, 0, 0⟩
abbrev lamP : To := .cons lamY (.cons xN .nil .nil) .nil
abbrev lamR : To := .cons lamY (.cons xN1 .nil .nil) .nil
theorem x_right : RT xN .nil = true := by decide +kernel
theorem lam_right : RT lamX lamP = true := by decide +kernel
theorem x_free : free1 [] xN .nil = [xN] := rfl
theorem lam_free : free1 [] lamX lamP = [] := rfl
theorem lam_res : resH lamX lamP = lamX ∧ resP lamX lamP = lamR := ⟨rfl, rfl⟩
theorem x_rsv : rsvP xN .nil = ((zeroN, .nil), (0, 0), 5) := by unfold rsvP; rw [if_pos x_right, x_free]
theorem lam_rsv : rsvP lamX lamP = ((lamX, lamR), (0, 0), 0) := by unfold rsvP; rw [if_pos lam_right, lam_free, lam_res.1, lam_res.2]
theorem lam_good : allT GoodH (.cons lamX lamP .nil) := by
  have h : ∀ k nm, nm.size ≤ 100000 → GoodH ⟨k, nm, 0, 0, 0, .nil, 0, 0⟩ := fun k nm hn => ⟨hn, Nat.zero_le _, (by decide : (Lit.int .i64 0).wf = true), trivial⟩
  exact ⟨h _ _ (by decide), ⟨h _ _ (by decide), ⟨h _ _ (by decide), trivial, trivial⟩, trivial⟩, trivial⟩
theorem x_good : allT GoodH (.cons xN .nil .nil) := by
  have h : ∀ k nm, nm.size ≤ 100000 → GoodH ⟨k, nm, 0, 0, 0, .nil, 0, 0⟩ := fun k nm hn => ⟨hn, Nat.zero_le _, (by decide : (Lit.int .i64 0).wf = true), trivial⟩
  exact ⟨h _ _ (by decide), trivial, trivial⟩
set_option maxHeartbeats 4000000 in
set_option maxRecDepth 100000 in
theorem awake8_any (w : World) (ht : Lx.Spaces w) : Calls Tryd.prog 11 #[] w fun e w' => e = .returned (.bool true) ∧ Quiet0 w w' := by
  have HT := Lib.hid ht
  obtain ⟨W1, hW1⟩ : ∃ W1, W1 = w.alloc (.cells (cells9 xN none 0 0 none 0 0) 30) := ⟨_, rfl⟩
  obtain ⟨W3, hW3⟩ : ∃ W3, W3 = (W1.alloc (.cells (cells9 xN none 0 0 none 0 0) 30)).alloc (.cells (cells9 lamY none 0 0 (some ⟨W1.heap.size, 0, none⟩) 1 1) 30) := ⟨_, rfl⟩
  have hq1 : Quiet0 w W1 := by rw [hW1]; exact Quiet0.alloc _ _
  have hq3 : Quiet0 W1 W3 := by rw [hW3]; exact (Quiet0.alloc _ _).trans (Quiet0.alloc _ _)
  have hb1 : W1.heap[w.heap.size]? = some (.cells (cells9 xN none 0 0 none 0 0) 30 (0, 0)) := by rw [hW1]; exact heap_alloc_new w _
  have hx3 : W3.heap[W1.heap.size]? = some (.cells (cells9 xN none 0 0 none 0 0) 30 (0, 0)) := by
    rw [hW3, Below.heap_alloc _ _ _ (by simp)]; exact heap_alloc_new W1 _
  have hy3 : W3.heap[W1.heap.size + 1]? = some (.cells (cells9 lamY none 0 0 (some ⟨W1.heap.size, 0, none⟩) 1 1) 30 (0, 0)) := by
    rw [hW3]
    have := heap_alloc_new (W1.alloc (.cells (cells9 xN none 0 0 none 0 0) 30)) (.cells (cells9 lamY none 0 0 (some ⟨W1.heap.size, 0, none⟩) 1 1) 30)
    simpa using this
  have hsl : TSlc (fun _ => True) W3 (some ⟨W1.heap.size + 1, 0, none⟩) 1 lamP :=
    ⟨rfl, by decide, fun _ => ⟨_, 0, rfl, trivial, ⟨none, 0, 0, some ⟨W1.heap.size, 0, none⟩, 1, 1, cells9_block hy3, SlcIn.nil _ _ _, rfl, by decide, fun _ => ⟨_, 0, rfl, trivial, ⟨none, 0, 0, none, 0, 0, cells9_block hx3, SlcIn.nil _ _ _, rfl, by decide, fun h => absurd h (Nat.lt_irrefl _)⟩, trivial⟩⟩, trivial⟩⟩
  have HC := Lib.hid (resolve_any lamX lamP W3 (fun _ => True) none 0 0 (some ⟨W1.heap.size + 1, 0, none⟩) 1 1 (SlcIn.nil _ _ _) hsl (by decide) lam_good (ht.stay (hq1.trans hq3)))
  have HCX : Hid (∀ W, Quiet0 w W → Calls Tryd.prog 13 #[.agg #[.int .i64 1, .string ⟨#[120]⟩, .int .i64 0, .int .i64 0, .int .i64 0, .slice none 0 0, .slice none 0 0, .int .i64 0, .int .i64 0]] W (RsvQ W xN .nil)) := fun W hq => resolve_any xN .nil W (fun _ => True) none 0 0 none 0 0 (SlcIn.nil _ _ _) (TSlc.nil _ _ _) (by decide) x_good (ht.stay hq)
  have HQ3 := Lib.hid (hq1.trans hq3)
  have HB1 : Hid (∀ W, Quiet0 W3 W → Cells9 W w.heap.size 0 xN none 0 0 none 0 0) := fun W hq => (cells9_block hb1).fr (hq3.trans hq) (fun h => h)
  obtain ⟨a0, a1, a2, a3, a4, a5, a6, a7, a8⟩ := cells9_block hb1
  have HZ3 : Hid (W3.heap.size = W1.heap.size + 2) := by show _ = _; rw [hW3]; simp
  unfold tmv at HC
  clear hq1 hq3 hb1 hx3 hy3 hsl ht
  go_enter Tryd.func11, Tryd.ntmps11
  go_upto_region 2 with fail
  change Code.wp _ _ _ _ (w.alloc (.cells (cells9 xN none 0 0 none 0 0) 30))
  rw [← hW1]
  clear hW1
  go_wp2_with fail
  change Calls _ _ _ ((W1.alloc (.cells (cells9 xN none 0 0 none 0 0) 30)).alloc (.cells (cells9 lamY none 0 0 (some ⟨W1.heap.size, 0, none⟩) 1 1) 30)) _
  rw [← hW3]
  clear hW3 a0 a1 a2 a3 a4 a5 a6 a7 a8
  refine HC.out.mono ?_; rintro x w4 ⟨g, gs, q1, m1, d1, q2, m2, d2, p, er, rfl, hr, hg1, hg2, hq4⟩
  rw [lam_rsv] at hr
  obtain ⟨hr1, hr2⟩ := Prod.mk.inj hr
  obtain ⟨hr3, hr4⟩ := Prod.mk.inj hr1
  obtain ⟨hr5, hr6⟩ := Prod.mk.inj hr2
  subst hr3 hr4 hr5 hr6
  obtain rfl : m1 = 0 := hg1.1
  obtain rfl : m2 = 1 := hg2.1
  have HQ4 := Lib.hid hq4
  have HG2 := Lib.hid hg2
  clear hr hr1 hr2 hg1 hg2 hq4
  unfold tmv
  obtain ⟨W5, hW5⟩ : ∃ W5, W5 = (w4.alloc (.cells (cells9 lamX q1 0 d1 q2 1 d2) 30)).alloc (.cells #[.int .i64 0, .int .i64 0] 28) := ⟨_, rfl⟩
  have hq5 : Quiet0 w4 W5 := by rw [hW5]; exact (Quiet0.alloc _ _).trans (Quiet0.alloc _ _)
  have hb5 : W5.heap[w4.heap.size]? = some (.cells (cells9 lamX q1 0 d1 q2 1 d2) 30 (0, 0)) := by
    rw [hW5, Below.heap_alloc _ _ _ (by simp)]; exact heap_alloc_new w4 _
  have HB5 : Hid (∀ W, Quiet0 W5 W → Cells9 W w4.heap.size 0 lamX q1 0 d1 q2 1 d2) := fun W hq => (cells9_block hb5).fr hq (fun h => h)
  have HQ5 := Lib.hid hq5
  have HG5 := Lib.hid (HG2.out.stay hq5)
  clear hq5 hb5
  go_upto_region 3 with fail
  change Code.wp _ _ _ _ ((w4.alloc (.cells (cells9 lamX q1 0 d1 q2 1 d2) 30)).alloc (.cells #[.int .i64 0, .int .i64 0] 28))
  rw [← hW5]
  clear hW5
  generalize w4.heap.size = tb at *
  obtain ⟨a0, a1, a2, a3, a4, a5, a6, a7, a8⟩ := HB1.out W5 (HQ4.out.trans HQ5.out)
  go_wp2_with fail
  refine (HCX.out W5 (HQ3.out.trans (HQ4.out.trans HQ5.out))).mono ?_; rintro x w6 ⟨g, gs, u1, v1, e1, u2, v2, e2, p, er, rfl, hr, hg1, hg2, hq6⟩
  rw [x_rsv] at hr
  obtain ⟨hr1, hr2⟩ := Prod.mk.inj hr
  obtain ⟨hr3, hr4⟩ := Prod.mk.inj hr1
  obtain ⟨hr5, hr6⟩ := Prod.mk.inj hr2
  subst hr3 hr4 hr5 hr6
  have HQ6 := Lib.hid hq6
  clear hr hr1 hr2 hg1 hg2 hq6 a0 a1 a2 a3 a4 a5 a6 a7 a8
  unfold tmv
  obtain ⟨W7, hW7⟩ : ∃ W7, W7 = (w6.alloc (.cells (cells9 zeroN u1 v1 e1 u2 v2 e2) 30)).alloc (.cells #[.int .i64 0, .int .i64 0] 28) := ⟨_, rfl⟩
  have hq7 : Quiet0 w6 W7 := by rw [hW7]; exact (Quiet0.alloc _ _).trans (Quiet0.alloc _ _)
  have HQ7 := Lib.hid (HQ6.out.trans hq7)
  clear hq7
  go_upto_region 4 with fail
  change Code.wp _ _ _ _ ((w6.alloc (.cells (cells9 zeroN u1 v1 e1 u2 v2 e2) 30)).alloc (.cells #[.int .i64 0, .int .i64 0] 28))
  rw [← hW7]
  clear hW7
  obtain ⟨a0, a1, a2, a3, a4, a5, a6, a7, a8⟩ := HB5.out W7 HQ7.out
  obtain ⟨b9, off, hd, ps, r1, s1, t1, r2, s2, t2, rfl, hdr, hg, _, ⟨c0, c1, c2, c3, c4, c5, c6, c7, c8⟩, _, ht2⟩ := (HG5.out.stay HQ7.out).nth (i := 0) (by decide)
  obtain ⟨hh1, hh2⟩ := Prod.mk.inj (Option.some.inj hg)
  subst hh1 hh2
  obtain rfl : s2 = 1 := ht2.1
  obtain ⟨b8, off8, hd, ps, r3, s3, t3, r4, s4, t4, rfl, _, hg', _, ⟨f0, f1, f2, f3, f4, f5, f6, f7, f8⟩, _, _⟩ := ht2.nth (i := 0) (by decide)
  obtain ⟨hh1, hh2⟩ := Prod.mk.inj (Option.some.inj hg')
  subst hh1 hh2
  rw [Nat.zero_mul, Nat.add_zero] at c0 c1 c2 c3 c4 c5 c6 c7 c8 f0 f1 f2 f3 f4 f5 f6 f7 f8
  clear hdr hg hg' ht2
  go_wp2_with fail
  go_ret
  exact ⟨rfl, HQ3.out.trans ((HQ4.out.trans HQ5.out).trans HQ7.out)⟩
end Sc
end Go.Proofs.YtnfodiedalhlhaaDoor
end
section
namespace Go.Proofs.YtnfodiedalhlhaaDoor
open Go.RowKit Go.Shelf
set_option maxHeartbeats 1000000 in
theorem refEqualT_any (a : Nd) (p : To) (b : Nd) (q : To) (w : World) (R : Nat → Prop) (o1 : Option Addr) (l1 c1 : Nat) (o2 : Option Addr) (l2 c2 : Nat) (p1 : Option Addr) (m1 d1 : Nat) (p2 : Option Addr) (m2 d2 : Nat)
    (h1 : SlcIn R w o1 l1 a.tp) (h2 : TSlc R w o2 l2 p) (h3 : SlcIn R w p1 m1 b.tp) (h4 : TSlc R w p2 m2 q) :
    Calls Tryd.prog 17 #[tmv a o1 l1 c1 o2 l2 c2, tmv b p1 m1 d1 p2 m2 d2] w fun e w' => e = .returned (.bool (alikeT true a p b q)) ∧ Quiet0 w w' := by
  have HC := Lib.hid (fun (W : World) (hq : Quiet0 w W) => refSameT_any true a p b q W o1 l1 c1 o2 l2 c2 p1 m1 d1 p2 m2 d2 R (h1.stay hq) (h2.stay hq) (h3.stay hq) (h4.stay hq))
  generalize alikeT true a p b q = r at *
  clear h1 h2 h3 h4
  unfold tmv at *
  go_enter Tryd.func17, Tryd.ntmps17
  go_wp2_with fail
  refine (HC.out _ ((Quiet0.alloc _ _).trans (Quiet0.alloc _ _))).mono ?_; rintro e w1 ⟨rfl, hq⟩
  go_wp2_with fail
  go_ret
  exact ⟨rfl, ((Quiet0.alloc _ _).trans (Quiet0.alloc _ _)).trans hq⟩
end Go.Proofs.YtnfodiedalhlhaaDoor
end
section
namespace Go.Proofs.YtnfodiedalhlhaaDoor
open Go.RowKit
def bigH (h : Nd) : Bool := decide (60 < h.nm.size) || greatF h.tp
namespace To
def room : Nat → Int → To → Int
  | _, m, nil => m
  | d, m, cons h ps r => if m < 0 then m else
      match d with
      | 0 => room 0 (-1) r
      | d + 1 => room (d + 1) (if bigH h then -1 else room d (m - 1) ps) r
theorem room_neg : ∀ (f : To) (d : Nat) (m : Int), m < 0 → room d m f = m
  | nil, _, _, _ => by unfold room; rfl
  | cons h ps r, d, m, e => by unfold room; rw [if_pos e]
theorem room_le : ∀ (f : To) (d : Nat) (m : Int), 0 ≤ m → room d m f ≤ m ∧ -1 ≤ room d m f
  | nil, _, _, _ => by unfold room; omega
  | cons h ps r, d, m, e => by
    unfold room
    rw [if_neg (by omega)]
    cases d with
    | zero => simp only; rw [room_neg r 0 (-1) (by omega)]; omega
    | succ d =>
      simp only
      cases hb : bigH h
      · simp only [Bool.false_eq_true, if_false]
        by_cases hm : 0 ≤ m - 1
        · have h1 := room_le ps d (m - 1) hm
          by_cases h0 : 0 ≤ room d (m - 1) ps
          · have h2 := room_le r (d + 1) _ h0; omega
          · rw [room_neg r _ _ (by omega)]; omega
        · rw [room_neg ps _ _ (by omega), room_neg r _ _ (by omega)]; omega
      · simp only [if_true]
        rw [room_neg r _ _ (by omega)]; omega
theorem room_all : ∀ (f : To) (d : Nat) (m : Int), 0 ≤ room d m f → room d m f = m - f.size ∧ 0 ≤ m ∧ f.depth ≤ d ∧ allT (fun h => bigH h = false) f
  | nil, _, m, h => by unfold room at h ⊢; simp [size, depth, allT]; exact h
  | cons h ps r, d, m, e => by
    unfold room at e ⊢
    by_cases hm : m < 0
    · rw [if_pos hm] at e; omega
    · rw [if_neg hm] at e ⊢
      cases d with
      | zero => simp only at e; rw [room_neg r 0 (-1) (by omega)] at e; omega
      | succ d =>
        simp only at e ⊢
        obtain ⟨h1, h2, h3, h4⟩ := room_all r (d + 1) _ e
        cases hb : bigH h
        · rw [hb] at h1 h2 e
          simp only [Bool.false_eq_true, if_false] at h1 h2 e ⊢
          obtain ⟨g1, g2, g3, g4⟩ := room_all ps d (m - 1) h2
          rw [h1, g1]
          refine ⟨by simp only [size]; omega, by omega, by simp only [depth]; omega, hb, g4, h4⟩
        · rw [hb] at h2; simp at h2
end To
def roomOne (d : Nat) (m : Int) (h : Nd) (ps : To) : Int := if d = 0 then -1 else if bigH h then -1 else To.room (d - 1) (m - 1) ps
theorem room_cons (d : Nat) (m : Int) (h : Nd) (ps r : To) (hm : 0 ≤ m) : To.room d m (.cons h ps r) = To.room d (roomOne d m h ps) r := by
  conv => lhs; unfold To.room
  rw [if_neg (by omega)]
  unfold roomOne
  cases d with
  | zero => rfl
  | succ d => rfl
theorem roomOne_le (d : Nat) (m : Int) (h : Nd) (ps : To) (hm : 0 ≤ m) : -1 ≤ roomOne d m h ps ∧ roomOne d m h ps ≤ m := by
  unfold roomOne
  split
  · omega
  · split
    · omega
    · by_cases h1 : 0 ≤ m - 1
      · have := To.room_le ps (d - 1) (m - 1) h1; omega
      · rw [To.room_neg _ _ _ (by omega)]; omega
def LRoomT (h : Nd) (ps : To) : Prop := ∀ (w : World) (R : Nat → Prop) (o1 : Option Addr) (l1 c1 : Nat) (o2 : Option Addr) (l2 c2 : Nat) (d : Nat) (m : Int) (di : Int), di = d → SlcIn R w o1 l1 h.tp → TSlc R w o2 l2 ps → h.nm.size ≤ 9223372036854775807 → allT (fun h => h.nm.size ≤ 9223372036854775807) ps → 0 ≤ m → m ≤ 100000 → d ≤ 100000 →
  Calls Tryd.prog 42 #[tmv h o1 l1 c1 o2 l2 c2, .int .i64 m, .int .i64 di] w fun e w' => e = .returned (.int .i64 (roomOne d m h ps)) ∧ Quiet0 w w'
set_option maxHeartbeats 2000000 in
theorem roomT_any (h : Nd) (ps : To) : LRoomT h ps := by
  refine To.ind' (T := LRoomT) ?_ h ps
  intro h ps ih w R o1 l1 c1 o2 l2 c2 d m di ed hs1 hs hnm hnms hm0 hm1 hd1
  subst ed
  have HG := Lib.hid (fun (W : World) (hq : Quiet0 w W) => great_any h.tk h.tn h.tp W o1 l1 c1 (hs1.slc.stay hq))
  have HS := Lib.hid hs
  have IH := Lib.hid ih
  have HL := Lib.hid hs.1
  have HNM := Lib.hid hnms
  have hmx := hs.2.1
  unfold maxLen at hmx
  unfold tyv at HG
  clear hs ih hnms
  by_cases hd0 : d = 0
  · subst hd0
    unfold tmv roomOne
    go_enter Tryd.func42, Tryd.ntmps42
    go_wp2_with fail
    go_ret
    exact ⟨rfl, Quiet0.alloc _ _⟩
  · obtain ⟨D, hD⟩ : ∃ D, D = d - 1 := ⟨_, rfl⟩
    have hd0' : ((d : Int) == 0) = false := by simp; omega
    have hdD : d = D + 1 := by omega
    by_cases h60 : 60 < h.nm.size
    · have h60' : (60 : Int) < (h.nm.size : Int) := by omega
      have HF : Hid (roomOne d m h ps = -1) := by show _ = _; unfold roomOne bigH; rw [if_neg hd0]; simp [h60]
      rw [HF.out]
      clear hd0 hD
      unfold tmv
      go_enter Tryd.func42, Tryd.ntmps42
      go_wp2_with fail
      go_ret
      exact ⟨rfl, Quiet0.alloc _ _⟩
    · have h60' : ¬ (60 : Int) < (h.nm.size : Int) := by omega
      cases hg : greatF h.tp
      · obtain ⟨res, hres⟩ : ∃ res, res = To.room D (m - 1) ps := ⟨_, rfl⟩
        have HRES := Lib.hid hres
        have HF : Hid (roomOne d m h ps = res) := by show _ = _; unfold roomOne bigH; rw [if_neg hd0, hres, hg, ← hD]; simp [h60]
        rw [HF.out]
        rw [hg] at HG
        have HDD := Lib.hid hdD
        have hD1 : D ≤ 100000 := by omega
        have hd1' : 1 ≤ d := by omega
        clear hres hd0 hD hdD hg h60
        obtain ⟨W0, hW0⟩ : ∃ W0, W0 = w.alloc (.cells (cells9 h o1 l1 c1 o2 l2 c2) 30) := ⟨_, rfl⟩
        have HB : Hid (∀ W, Quiet0 W0 W → W.cell? ⟨w.heap.size, 6, none⟩ = some (.slice o2 l2 c2)) := by
          intro W hq; rw [hW0] at hq; exact (box9 w h o1 l1 c1 o2 l2 c2 _ W hq).2.2.2.2.2.2.1
        have HQ0 : Hid (Quiet0 w W0) := by rw [hW0]; exact Quiet0.alloc _ _
        unfold tmv
        go_enter Tryd.func42, Tryd.ntmps42
        go_wp2_with fail
        change Calls _ _ _ (w.alloc (.cells (cells9 h o1 l1 c1 o2 l2 c2) 30)) _
        rw [← hW0]
        refine (HG.out _ HQ0.out).mono ?_; rintro e w1 ⟨rfl, hq1⟩
        have HQ1 := Lib.hid hq1
        clear hW0 hq1
        go_wp2_with fail
        generalize w.heap.size = nb at *
        go_loopw [1, 7] (fun s t wr => ∃ (i : Nat) (x : Int), t = .int .i64 i ∧ s = .int .i64 x ∧ i ≤ l2 ∧ -1 ≤ x ∧ x ≤ 100000 ∧ res = To.room D x (ps.drop i) ∧ Quiet0 W0 wr) (fun _ t _ => l2 - (intOf t).toNat)
        case atStart => exact ⟨0, m - 1, rfl, rfl, Nat.zero_le _, by omega, by omega, by rw [To.drop_zero]; exact HRES.out, HQ1.out⟩
        case round =>
          obtain ⟨i, x, rfl, rfl, hi, hx0, hx1, hr, hq⟩ := hrel
          have HR := Lib.hid hr
          have HQ := Lib.hid hq
          have g2 := HB.out wr hq
          clear hr hq
          by_cases hlt : i < l2
          · have hlt' : (i : Int) < l2 := by omega
            by_cases hx : 0 ≤ x
            · obtain ⟨b, off, hd, qs, p1, m1, d1, p2, m2, d2, rfl, hdr, hg, hRb, ⟨e0, e1, e2, e3, e4, e5, e6, e7, e8⟩, hsl, ht1⟩ := (HS.out.stay (HQ0.out.trans HQ.out)).nth hlt
              have hna := allT_get ps i hd qs HNM.out hg
              have HC := Lib.hid (IH.out i hd qs hg wr R p1 m1 d1 p2 m2 d2 D x ((d : Int) - 1) (by have := HDD.out; omega) hsl ht1 hna.1 hna.2 hx hx1 hD1)
              obtain ⟨y, hy⟩ : ∃ y, y = roomOne D x hd qs := ⟨_, rfl⟩
              have hyb : -1 ≤ y ∧ y ≤ 100000 := by have := roomOne_le D x hd qs hx; omega
              have HY : Hid (res = To.room D y (ps.drop (i + 1))) := by
                show _ = _
                rw [HR.out, hdr, hy, room_cons _ _ _ _ _ hx]
              rw [← hy] at HC
              unfold tmv at HC
              clear hdr hg hsl ht1 hy hRb hna
              go_wp2_with fail
              refine HC.out.mono ?_; rintro e w1 ⟨rfl, hq1⟩
              have HQ1 := Lib.hid (HQ.out.trans hq1)
              clear hq1
              go_wp2_with fail
              go_roundw
              case rel => exact ⟨i + 1, y, by go_num, rfl, by omega, hyb.1, hyb.2, HY.out, HQ1.out⟩
              case measure => simp [intOf]; omega
            · have hx' : x < 0 := by omega
              have HY : Hid (res = x) := by show _ = _; rw [HR.out]; exact To.room_neg _ _ _ hx'
              go_wp2_with fail
              go_ret
              exact ⟨by rw [HY.out]; rfl, HQ0.out.trans HQ.out⟩
          · have hlt' : ¬ (i : Int) < l2 := by omega
            have HY : Hid (res = x) := by
              show _ = _
              rw [HR.out, To.drop_end ps i (by have := HL.out; omega)]
              unfold To.room; rfl
            go_wp2_with fail
            go_ret
            exact ⟨by rw [HY.out]; rfl, HQ0.out.trans HQ.out⟩
      · have HF : Hid (roomOne d m h ps = -1) := by show _ = _; unfold roomOne bigH; rw [if_neg hd0, hg]; simp
        rw [HF.out]
        rw [hg] at HG
        clear hd0 hD hg h60
        unfold tmv
        go_enter Tryd.func42, Tryd.ntmps42
        go_wp2_with fail
        refine (HG.out _ (Quiet0.alloc _ _)).mono ?_; rintro e w1 ⟨rfl, hq1⟩
        go_wp2_with fail
        go_ret
        exact ⟨rfl, (Quiet0.alloc _ _).trans hq1⟩
def greatTm (h : Nd) (ps : To) : Bool := decide (roomOne 60 200 h ps < 0)
theorem greatTm_no {h : Nd} {ps : To} (e : greatTm h ps = false) : bigH h = false ∧ allT (fun h => bigH h = false) ps ∧ ps.size + 1 ≤ 200 ∧ ps.depth + 1 ≤ 60 := by
  unfold greatTm at e
  have h0 : 0 ≤ roomOne 60 200 h ps := by simpa using e
  unfold roomOne at h0
  rw [if_neg (by omega)] at h0
  cases hb : bigH h
  · rw [hb] at h0
    simp only [Bool.false_eq_true, if_false] at h0
    obtain ⟨h1, h2, h3, h4⟩ := To.room_all ps _ _ h0
    exact ⟨rfl, h4, by omega, by omega⟩
  · rw [hb] at h0; simp at h0
theorem bigH_no {h : Nd} (e : bigH h = false) : h.nm.size ≤ 60 ∧ h.tp.size + 1 ≤ 300 := by
  unfold bigH at e
  rw [Bool.or_eq_false_iff] at e
  exact ⟨by simpa using e.1, great_size e.2⟩
set_option maxHeartbeats 1000000 in
theorem greatTm_any (h : Nd) (ps : To) (w : World) (R : Nat → Prop) (o1 : Option Addr) (l1 c1 : Nat) (o2 : Option Addr) (l2 c2 : Nat) (hs1 : SlcIn R w o1 l1 h.tp) (hs : TSlc R w o2 l2 ps) (hnm : h.nm.size ≤ 9223372036854775807) (hnms : allT (fun h => h.nm.size ≤ 9223372036854775807) ps) :
    Calls Tryd.prog 15 #[tmv h o1 l1 c1 o2 l2 c2] w fun e w' => e = .returned (.bool (greatTm h ps)) ∧ Quiet0 w w' := by
  have HC := Lib.hid (fun (W : World) (hq : Quiet0 w W) => roomT_any h ps W R o1 l1 c1 o2 l2 c2 60 200 60 rfl (hs1.stay hq) (hs.stay hq) hnm hnms (by omega) (by omega) (by omega))
  unfold greatTm
  generalize roomOne 60 200 h ps = r at *
  clear hs1 hs hnm hnms
  unfold tmv at *
  go_enter Tryd.func15, Tryd.ntmps15
  go_wp2_with fail
  refine (HC.out _ (Quiet0.alloc _ _)).mono ?_; rintro e w1 ⟨rfl, hq⟩
  go_wp2_with fail
  go_ret
  exact ⟨rfl, (Quiet0.alloc _ _).trans hq⟩
end Go.Proofs.YtnfodiedalhlhaaDoor
end
section
namespace Go.Proofs.YtnfodiedalhlhaaDoor
open Go.ChangeShapes Go.WideShapes Go.ChangeAt Go.RowKit
theorem own : ownKnob Tryd.prog.godebug = none := by kernel_rfl
def typesRead (P : Program) (ts : List TypeId) : Bool := ts.all fun t => P.readableRec t && decide (t < P.types.size)
theorem below_trodAll {H : Type} {enc : TypeId × Value → H} {P : Program} (hl : laidOutB P = true) {W W' : World} (hb : Below W.heap.size W W') :
    ∀ (ts : List TypeId) (vs : List Value) (ds : List (DataW H)) (ps : List MemPlace), typesRead P ts = true → DataW.TrodAll enc P W 0 (fun _ => true) true ts vs ds ps → (∀ x ∈ ps, x.block < W.heap.size) →
      DataW.TrodAll enc P W' 0 (fun b => decide (b < W.heap.size)) true ts vs ds ps
  | [], vs, ds, ps, _, h, _ => by
    obtain ⟨rfl, rfl, rfl⟩ := trodAll_nil h
    exact trodAll_mk0
  | t :: ts, vs, ds, ps, hr, h, hlt => by
    obtain ⟨v, vs', d, ds', p, q, rfl, rfl, rfl, h1, h2⟩ := trodAll_cons h
    simp only [typesRead, List.all_cons, Bool.and_eq_true, decide_eq_true_eq] at hr
    exact trodAll_cons_mk (Below.trod hl hr.1.1 hr.1.2 h1 hb (fun x hx => hlt x (List.mem_append_left _ hx)))
      (below_trodAll hl hb ts vs' ds' q hr.2 h2 (fun x hx => hlt x (List.mem_append_right _ hx)))
theorem law_post {H : Type} {enc : TypeId × Value → H} {f : Func} {s : ChangeSpec} {W W' : World} {args : Array Value} {ds gs : List (DataW H)} {before : List MemPlace}
    (hW : DataW.Whole enc Tryd.prog f.params.toList s.vars false W args.toList ds gs before) (hv : s.vars = []) (hs : (s.fn H (ds ++ gs)).results = [.lit (.bool true)]) (hs2 : (s.fn H (ds ++ gs)).args = ds) (hs3 : (s.fn H (ds ++ gs)).vars = [])
    (hres : f.resultTypes = #[4]) (hread : typesRead Tryd.prog f.params.toList = true) (hb : Below W.heap.size W W') :
    s.post enc Tryd.prog f false true false false W args (.bool true) W' := by
  have hlt := hW.lt
  have hW' := hW
  obtain ⟨p, q, hA, hV, rfl, hfz, hnd⟩ := hW
  refine ⟨ds, gs, _, [], p, [], hW', ?_, ?_, ?_, hb.frame _, fun h => by cases h⟩
  · rw [hs, hres]; exact trodAll_cons_mk (shut_bool Tryd.underlying4 _) trodAll_mk0
  · rw [hs2]; exact below_trodAll (by kernel_rfl) hb _ _ _ _ hread hA (fun x hx => by have := hlt x (List.mem_append_left _ hx); simpa using this)
  · rw [hs3, hv]; exact rfl
end Go.Proofs.YtnfodiedalhlhaaDoor
end
section
namespace Go.Proofs.YtnfodiedalhlhaaDoor
open Go.ChangeShapes Go.WideShapes Go.ChangeAt Go.RowKit
theorem spot_none {w : World} {a : Addr} {v : Value} (h : w.cell? (a.add 0) = some v) : ∃ b off, a = ⟨b, off, none⟩ := by
  obtain ⟨b, off, s⟩ := a
  cases s with
  | none => exact ⟨b, off, rfl⟩
  | some s =>
    unfold World.cell? Addr.add at h
    simp only [if_true] at h
    split at h <;> simp_all
section
variable {H : Type} {enc : TypeId × Value → H} {P : Program} {w : World} {base : Nat} {spare : Nat → Bool} {held : Bool}
theorem at_of_cells {b off len : Nat} (one : ∀ i, i < len → ∃ k n o l c ps, w.cell? ⟨b, off + i * 3, none⟩ = some (.int .i64 k) ∧ w.cell? ⟨b, off + i * 3 + 1, none⟩ = some (.int .i64 n) ∧ w.cell? ⟨b, off + i * 3 + 2, none⟩ = some (.slice o l c) ∧ Slc w o l ps ∧ wfI n ∧ wfF ps) :
    ∀ m s, s + m = len → ∃ f : Fo, f.length = m ∧ At w b (off + s * 3) f ∧ wfF f
  | 0, s, _ => ⟨.nil, rfl, trivial, trivial⟩
  | m + 1, s, h => by
    obtain ⟨k, n, o, l, c, ps, h1, h2, h3, hs, hw, hwp⟩ := one s (by omega)
    obtain ⟨r, hr, ha, hwr⟩ := at_of_cells one m (s + 1) (by omega)
    refine ⟨.cons k n ps r, by simp [Fo.length, hr], ⟨h1, h2, ⟨o, l, c, h3, hs.1, hs.2.1, hs.2.2⟩, ?_⟩, hw, hwp, hwr⟩
    rw [show off + s * 3 + 3 = off + (s + 1) * 3 from by omega]
    exact ha
theorem open_parts {te : TypeId} {f0 f1 f2 : Field} (he : P.underlying te = some (.struct #[f0, f1, f2])) (ce : P.cellsOf te = 3)
    (o0 : f0.offset = 0) (o1 : f1.offset = 1) (o2 : f2.offset = 2) (c0 : P.cellsOf f0.type = 1) (c1 : P.cellsOf f1.type = 1) (c2 : P.cellsOf f2.type = 1) (k0 : P.underlying f0.type = some (.int .i64)) (k1 : P.underlying f1.type = some (.int .i64)) (k2 : P.underlying f2.type = some (.slice te)) :
    ∀ (fuel : Nat) (ts : TypeId) (cs : List Value) (x : DataW H × List MemPlace), P.underlying ts = some (.slice te) → DataW.trod enc P w base spare held fuel ts cs = some x → ∃ o len cap f, cs = [.slice o len cap] ∧ Slc w o len f ∧ wfF f := by
  intro fuel
  induction fuel using Nat.strongRecOn with
  | _ fuel ih =>
  intro ts cs x hts h
  rcases DataW.trod_slice hts h with ⟨rfl, _⟩ | ⟨a, len, cap, elems, rest, n, hfu, rfl, _, _, hl, hm, hlen, hel, _⟩
  · exact ⟨_, _, _, .nil, rfl, Slc.nil _ _, trivial⟩
  · have one : ∀ i, i < len → ∃ k n o l c ps, w.cell? (a.add (i * 3)) = some (.int .i64 k) ∧ w.cell? (a.add (i * 3 + 1)) = some (.int .i64 n) ∧ w.cell? (a.add (i * 3 + 2)) = some (.slice o l c) ∧ Slc w o l ps ∧ wfI n ∧ wfF ps := by
      intro i hi
      have h1 := hel i hi
      rw [List.getElem?_eq_getElem (by omega)] at h1
      obtain ⟨cs', h2, h3⟩ := Option.bind_eq_some_iff.1 h1
      rw [ce] at h2
      obtain ⟨_, hcl, hcell⟩ := World.cells?_some h2
      obtain ⟨xs, n', hn', _, _, hxl, hfx⟩ := DataW.trod_struct he h3
      match cs', hcl with
      | [u0, u1, u2], _ =>
        have hxl3 : xs.length = 3 := by simpa using hxl
        have s0 := hfx 0 f0 rfl
        have s1 := hfx 1 f1 rfl
        have s2 := hfx 2 f2 rfl
        rw [c0, o0, show xs[0]? = some (xs[0]'(by omega)) from by simp [hxl3]] at s0
        rw [c1, o1, show xs[1]? = some (xs[1]'(by omega)) from by simp [hxl3]] at s1
        rw [c2, o2, show xs[2]? = some (xs[2]'(by omega)) from by simp [hxl3]] at s2
        obtain ⟨z0, hz0, _, hw0⟩ := DataW.trod_int k0 s0
        obtain ⟨z1, hz1, _, hw1⟩ := DataW.trod_int k1 s1
        obtain ⟨o, l, c, ps, hz2, hps, hwp⟩ := ih n' (by omega) f2.type _ _ k2 s2
        simp at hz0 hz1 hz2
        have e1 := hcell 1 (by omega)
        have e2 := hcell 2 (by omega)
        simp [Deep.add_add] at e1 e2
        refine ⟨z0, z1, o, l, c, ps, ?_, ?_, ?_, hps, hw1, hwp⟩
        · have : (a.add (i * 3)).add 0 = a.add (i * 3) := by rw [Deep.add_add]; rfl
          rw [← this, hcell 0 (by omega)]; simp [hz0]
        · rw [e1, hz1]
        · rw [e2, hz2]
    by_cases h0 : len = 0
    · subst h0
      exact ⟨_, _, _, .nil, rfl, Slc.nil _ _, trivial⟩
    · obtain ⟨k, n, o, l, c, ps, h1, _⟩ := one 0 (by omega)
      rw [Nat.zero_mul] at h1
      obtain ⟨b, off, rfl⟩ := spot_none h1
      obtain ⟨f, hf, hA, hwf⟩ := at_of_cells (b := b) (off := off) (len := len) (w := w) (fun i hi => by
        obtain ⟨k, n, o, l, c, ps, h1, h2, h3, h4⟩ := one i hi
        exact ⟨k, n, o, l, c, ps, by simpa [Addr.add_lit] using h1, by simpa [Addr.add_lit, Nat.add_assoc] using h2, by simpa [Addr.add_lit, Nat.add_assoc] using h3, h4⟩) len 0 (by omega)
      rw [Nat.zero_mul, Nat.add_zero] at hA
      exact ⟨_, _, _, f, rfl, ⟨hf.symm, by omega, fun _ => ⟨b, off, rfl, hA⟩⟩, hwf⟩
theorem open_agg {te : TypeId} {f0 f1 f2 : Field} (he : P.underlying te = some (.struct #[f0, f1, f2])) (ce : P.cellsOf te = 3)
    (o0 : f0.offset = 0) (o1 : f1.offset = 1) (o2 : f2.offset = 2) (c0 : P.cellsOf f0.type = 1) (c1 : P.cellsOf f1.type = 1) (c2 : P.cellsOf f2.type = 1) (k0 : P.underlying f0.type = some (.int .i64)) (k1 : P.underlying f1.type = some (.int .i64)) (k2 : P.underlying f2.type = some (.slice te))
    {fuel : Nat} {cs : List Value} {x : DataW H × List MemPlace} (h : DataW.trod enc P w base spare held fuel te cs = some x) : ∃ k n o len cap f, cs = [.int .i64 k, .int .i64 n, .slice o len cap] ∧ Slc w o len f ∧ wfI n ∧ wfF f := by
  obtain ⟨xs, n', hn', _, hcl, hxl, hfx⟩ := DataW.trod_struct he h
  rw [ce] at hcl
  match cs, hcl with
  | [u0, u1, u2], _ =>
    have hxl3 : xs.length = 3 := by simpa using hxl
    have s0 := hfx 0 f0 rfl
    have s1 := hfx 1 f1 rfl
    have s2 := hfx 2 f2 rfl
    rw [c0, o0, show xs[0]? = some (xs[0]'(by omega)) from by simp [hxl3]] at s0
    rw [c1, o1, show xs[1]? = some (xs[1]'(by omega)) from by simp [hxl3]] at s1
    rw [c2, o2, show xs[2]? = some (xs[2]'(by omega)) from by simp [hxl3]] at s2
    obtain ⟨z0, hz0, _, hw0⟩ := DataW.trod_int k0 s0
    obtain ⟨z1, hz1, _, hw1⟩ := DataW.trod_int k1 s1
    obtain ⟨o, l, c, ps, hz2, hps, hwp⟩ := open_parts he ce o0 o1 o2 c0 c1 c2 k0 k1 k2 n' f2.type _ _ k2 s2
    simp at hz0 hz1 hz2
    exact ⟨z0, z1, o, l, c, ps, by rw [hz0, hz1, hz2], hps, hw1, hwp⟩
end
section
variable {H : Type} {enc : TypeId × Value → H} {w : World} {base : Nat} {spare : Nat → Bool} {held : Bool}
end
end Go.Proofs.YtnfodiedalhlhaaDoor
end
