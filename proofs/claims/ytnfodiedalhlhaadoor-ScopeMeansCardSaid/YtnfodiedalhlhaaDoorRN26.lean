/-
  Texts laid together (ScRCall2, ScRRen): laws and walks, with their conditions in their statements.
-/
import Derived.Test.YtnfodiedalhlhaaDoorRN24
section
namespace Go.Proofs.YtnfodiedalhlhaaDoor
open Go.RowKit Go.Shelf
namespace Sc
set_option maxRecDepth 100000 in
set_option maxHeartbeats 8000000 in
theorem rcall_any (h : Nd) (ps : To) : RCallT h ps := by
  refine To.ind' (T := RCallT) ?_ h ps
  intro h ps ih
  by_cases hk : h.k = 1
  · exact rcall_var h ps hk
  intro w R T T' L o1 l1 c1 o2 l2 c2 no nn nc x no' nc' y lo lc l hs1 hs hN hN' hL hlc hll hls hsz hRl hLl
  have hk' : (h.k == 1) = false := by simp [hk]
  obtain ⟨W0, hW0⟩ : ∃ W0, W0 = (w.alloc (.cells (cells9 h o1 l1 c1 o2 l2 c2) 30)).alloc (.cells zero9 30) := ⟨_, rfl⟩
  have HQ0 : Hid (Quiet0 w W0) := by rw [hW0]; exact (Quiet0.alloc _ _).trans (Quiet0.alloc _ _)
  have HB0 : Hid (W0.heap[w.heap.size]? = some (.cells (cells9 h o1 l1 c1 o2 l2 c2) 30 (0, 0))) := by
    show _ = _; rw [hW0, Below.heap_alloc _ _ _ (by simp)]; exact heap_alloc_new w _
  have HB1 : Hid (W0.heap[w.heap.size + 1]? = some (.cells zero9 30 (0, 0))) := by
    show _ = _; rw [hW0]
    have := heap_alloc_new (w.alloc (.cells (cells9 h o1 l1 c1 o2 l2 c2) 30)) (.cells zero9 30)
    simpa using this
  have HZ : Hid (W0.heap.size = w.heap.size + 2) := by show _ = _; rw [hW0]; simp
  have HS1 := Lib.hid hs1
  have HS := Lib.hid hs
  have HN := Lib.hid hN
  have HN' := Lib.hid hN'
  have HXY : Hid (x.length = y.length) := by show _ = _; rw [← hN.1, ← hN'.1]
  have HNL := Lib.hid hN.1
  have IH := Lib.hid ih
  have HLL := Lib.hid (hL.stay HQ0.out)
  have HLS := Lib.hid hls
  have HRL := Lib.hid hRl
  have HLW := Lib.hid hLl
  have HL := Lib.hid hs.1
  have hps := To.length_le ps
  rw [← hs.1] at hps
  obtain ⟨FP, hFP⟩ : ∃ FP, (callR okN h.k h.nm (newNm okN h l) 0 x y (restNm h l) ps).1 = FP := ⟨_, rfl⟩
  obtain ⟨FL, hFL⟩ : ∃ FL, (callR okN h.k h.nm (newNm okN h l) 0 x y (restNm h l) ps).2 = FL := ⟨_, rfl⟩
  have HC1 : Hid (call1 okN x y l h ps = ({ h with nm := newNm okN h l }, FP, FL)) := by show _ = _; unfold call1; rw [if_neg hk, hFP, hFL]
  have HFP := Lib.hid hFP
  have HFL := Lib.hid hFL
  clear hs1 hs hN hN' ih hL hls hRl hLl hFP hFL hk
  obtain ⟨ln, hln⟩ : ∃ ln, l.length = ln := ⟨_, rfl⟩
  have HLN := Lib.hid hln
  rw [hln] at hlc hll ⊢
  clear hln
  unfold tmv
  go_enter Tryd.func56, Tryd.ntmps56
  go_upto_region 1 with fail
  rw [← hW0]
  clear hW0
  generalize hB : w.heap.size = B at *
  have HBE := Lib.hid hB
  clear hB
  obtain ⟨⟨x0, x1, x2, x3, x4, x5, x6, x7, x8⟩, y0, y1, y2, y3, y4, y5, y6, y7, y8⟩ := block9 HB0.out
  go_upto_region 7 with fail
  obtain ⟨W1, hW1⟩ : ∃ W1, W1 = W0.alloc (.cells (cells9 h o1 l1 c1 o2 l2 c2) 30) := ⟨_, rfl⟩
  change Code.wp _ _ _ _ (W0.alloc (.cells (cells9 h o1 l1 c1 o2 l2 c2) 30))
  have hz0 := HZ.out
  rw [hz0, ← hW1]
  have HQ1 : Hid (Quiet0 W0 W1) := by rw [hW1]; exact Quiet0.alloc _ _
  have HZ1 : Hid (W1.heap.size = B + 3) := by show _ = _; rw [hW1]; simp [hz0]
  have HD0 : Hid (W1.heap[B]? = some (.cells (cells9 h o1 l1 c1 o2 l2 c2) 30 (0, 0))) := blk_after HQ1.out HB0.out
  have HD1 : Hid (W1.heap[B + 1]? = some (.cells zero9 30 (0, 0))) := blk_after HQ1.out HB1.out
  have HD2 : Hid (W1.heap[B + 2]? = some (.cells (cells9 h o1 l1 c1 o2 l2 c2) 30 (0, 0))) := by
    show _ = _; rw [hW1, ← hz0]; exact heap_alloc_new W0 _
  clear hW1 hz0 x0 x1 x2 x3 x4 x5 x6 x7 x8 y0 y1 y2 y3 y4 y5 y6 y7 y8
  obtain ⟨⟨x0, x1, x2, x3, x4, x5, x6, x7, x8⟩, y0, y1, y2, y3, y4, y5, y6, y7, y8⟩ := block9 HD0.out
  go_cut [53] (fun v wx => v = .bool (bindK h.k && decide ((ln : Int) > 0)) ∧ W1 = wx)
  case first =>
    have HBK : Hid (∀ b, (bindK h.k && b) = ((h.k == 4 || h.k == 6 || h.k == 7) && b)) := fun b => rfl
    cases h4 : (h.k == 4)
    · cases h6 : (h.k == 6)
      · cases h7 : (h.k == 7)
        · go_wp2_with fail
          go_meet
          exact ⟨by rw [HBK.out, h4, h6, h7]; simp, rfl⟩
        · go_wp2_with fail
          go_meet
          exact ⟨by rw [HBK.out, h4, h6, h7]; simp, rfl⟩
      · go_wp2_with fail
        go_meet
        exact ⟨by rw [HBK.out, h4, h6]; simp, rfl⟩
    · go_wp2_with fail
      go_meet
      exact ⟨by rw [HBK.out, h4]; simp, rfl⟩
  case rest =>
    obtain ⟨rfl, rfl⟩ := hcut
    go_upto_if 53 with fail
    go_cut [3] (fun v wx => ∃ (ro : Option Addr) (rc : Nat), v = .slice ro (restNm h l).length rc ∧ (restNm h l).length ≤ rc ∧ StrT L wx ro (restNm h l) ∧ wx.heap[B]? = some (.cells (cells9 { h with nm := newNm okN h l } o1 l1 c1 o2 l2 c2) 30 (0, 0)) ∧ Fr (fun k => k = B) W1 wx)
    case first =>
      cases hb : (bindK h.k && decide ((ln : Int) > 0))
      case false =>
        have HE : Hid (restNm h l = l ∧ newNm okN h l = h.nm) := by
          show _ ∧ _
          unfold restNm newNm
          cases hbk : bindK h.k
          · refine ⟨by simp, ?_⟩
            cases l <;> simp
          · rw [hbk] at hb
            have : ln = 0 := by simpa using hb
            have hl0 : l = [] := List.eq_nil_of_length_eq_zero (by rw [HLN.out]; exact this)
            rw [hl0]; exact ⟨rfl, rfl⟩
        clear hb
        go_wp2_with fail
        go_meet
        rw [HE.out.1, HE.out.2]
        exact ⟨lo, lc, by rw [HLN.out], by rw [HLN.out]; exact hlc, HLL.out.stay HQ1.out, HD0.out, Fr.refl _ _⟩
      case true =>
        have hbk : bindK h.k = true := by
          cases hbk : bindK h.k
          · rw [hbk] at hb; exact absurd hb (by simp)
          · rfl
        have hpos : 0 < ln := by rw [hbk] at hb; simpa using hb
        obtain ⟨a, l', rfl⟩ : ∃ a l', l = a :: l' := by
          cases l with
          | nil => have := HLN.out; simp at this; omega
          | cons a l' => exact ⟨a, l', rfl⟩
        have HE : Hid (restNm h (a :: l') = l' ∧ newNm okN h (a :: l') = if okN a then a else h.nm) := by
          show _ ∧ _
          unfold restNm newNm
          rw [hbk]; exact ⟨rfl, by simp⟩
        obtain ⟨bl, ol, rfl, hLb, g0⟩ := (HLL.out.stay HQ1.out).head
        have HLb := Lib.hid hLb
        have hpos' : (0 : Int) < ln := by omega
        have hlm : (1 : Int) ≤ ln := by omega
        have HNA := Lib.hid (Lx.refName_any a (by have := HLS.out a (by simp); omega) W1)
        have HTL := Lib.hid ((HLL.out.stay HQ1.out).tail)
        have HLN' : Hid (l'.length = ln - 1) := by have := HLN.out; simp at this; show _ = _; omega
        change Hid (Calls _ _ _ _ (fun e w' => e = .returned (.bool (okN a)) ∧ _)) at HNA
        clear hb hbk hLb
        go_wp2_with fail
        refine HNA.out.mono ?_; rintro z w2 ⟨rfl, hq2⟩
        have HQ2 := Lib.hid hq2
        clear hq2 g0 x0 x1 x2 x3 x4 x5 x6 x7 x8 y0 y1 y2 y3 y4 y5 y6 y7 y8
        obtain ⟨⟨x0, x1, x2, x3, x4, x5, x6, x7, x8⟩, y0, y1, y2, y3, y4, y5, y6, y7, y8⟩ := block9 (blk_after HQ2.out HD0.out)
        obtain ⟨_, _, he, _, g0⟩ := ((HLL.out.stay HQ1.out).stay HQ2.out).head
        cases he
        have HTL2 := Lib.hid (HTL.out.stay HQ2.out)
        have HDB := Lib.hid (blk_after HQ2.out HD0.out)
        have HFS := Lib.hid (Fr.setCell (fun k => k = B) w2 ⟨B, 1, none⟩ (.string a) rfl)
        have HBS : Hid ((w2.setCell ⟨B, 1, none⟩ (.string a)).heap[B]? = some (.cells (cells9 { h with nm := a } o1 l1 c1 o2 l2 c2) 30 (0, 0))) := set_block (i := 1) (u := .string a) HDB.out
        cases ho : okN a
        · go_wp2_with fail
          all_goals
            go_meet
            rw [HE.out.1, HE.out.2, ho]
            have hlen := HLN'.out
            first
              | exact ⟨_, _, by rw [hlen], by omega, HTL2.out, HDB.out, HQ2.out.fr⟩
              | (have h0 : l' = [] := List.eq_nil_of_length_eq_zero (by omega); subst h0; exact ⟨_, _, by rw [hlen], Nat.zero_le _, StrT.nil _ _ _, HDB.out, HQ2.out.fr⟩)
        · go_wp2_with fail
          all_goals
            go_meet
            rw [HE.out.1, HE.out.2, ho]
            have hlen := HLN'.out
            first
              | exact ⟨_, _, by rw [hlen], by omega, HTL2.out.fr HFS.out (fun k _ hk => ⟨hk, fun e => by have := HLW.out k hk; omega⟩), HBS.out, HQ2.out.fr.trans HFS.out⟩
              | (have h0 : l' = [] := List.eq_nil_of_length_eq_zero (by omega); subst h0; exact ⟨_, _, by rw [hlen], Nat.zero_le _, StrT.nil _ _ _, HBS.out, HQ2.out.fr.trans HFS.out⟩)
    case rest =>
      rename World => wx
      obtain ⟨ro0, rc0, rfl, hrc0, hst0, hbx, hfx⟩ := hcut
      have hrl := restNm_len h l
      have HMM : Hid (∀ s ∈ restNm h l, s.size ≤ 1000) := fun s hs => HLS.out s (restNm_mem hs)
      have HLR : Hid ((restNm h l).length ≤ 1000) := by show _ ≤ _; have := HLN.out; omega
      have HRC0 := Lib.hid hrc0
      generalize newNm okN h l = nm2 at *
      generalize restNm h l = lr0 at *
      clear x0 x1 x2 x3 x4 x5 x6 x7 x8 y0 y1 y2 y3 y4 y5 y6 y7 y8 hrc0 hrl
      have HBX := Lib.hid hbx
      have HFX := Lib.hid hfx
      have HST := Lib.hid hst0
      obtain ⟨⟨x0, x1, x2, x3, x4, x5, x6, x7, x8⟩, y0, y1, y2, y3, y4, y5, y6, y7, y8⟩ := block9 hbx
      clear hbx hfx hst0
      go_upto_region 12 with fail
      have hfs := Fr.setCell (fun k => k = B) wx ⟨B, 6, none⟩ (.slice none 0 0) rfl
      have HBY : Hid ((wx.setCell ⟨B, 6, none⟩ (.slice none 0 0)).heap[B]? = some (.cells (cells9 { h with nm := nm2 } o1 l1 c1 none 0 0) 30 (0, 0))) := set_block (i := 6) (u := .slice none 0 0) HBX.out
      have HFY := Lib.hid (HFX.out.trans hfs)
      have HSY : Hid (StrT L (wx.setCell ⟨B, 6, none⟩ (.slice none 0 0)) ro0 lr0) := HST.out.fr hfs (fun k _ hk => ⟨hk, fun e => by have := HLW.out k hk; omega⟩)
      clear hfs x0 x1 x2 x3 x4 x5 x6 x7 x8 y0 y1 y2 y3 y4 y5 y6 y7 y8
      generalize wx.setCell ⟨B, 6, none⟩ (.slice none 0 0) = wy at *
      go_wp2_with fail
      go_loopw [3, 12] (fun s t wr => RcI R L B W1 x y h ps o1 l1 c1 l2 nm2 FP FL s t wr) (fun _ t _ => l2 - (intOf t).toNat)
      case atStart => exact ⟨0, .nil, [], none, 0, ro0, rc0, lr0, rfl, rfl, Nat.zero_le _, rfl, by rw [To.drop_zero]; exact HFP.out, by rw [To.drop_zero]; exact HFL.out, TmRowT.nil _ _, by simp [Value.ownBlock], HBY.out, HFY.out, HSY.out, HRC0.out, HLR.out, HMM.out⟩
      case round =>
        obtain ⟨i, f, xs, vo, vc, ro, rc, lr, rfl, rfl, hi, hfl, hap, hal, hrow, hlow, hb, hf, hst, hrc, hl1, hl2⟩ := hrel
        have HFLN := Lib.hid hfl
        have HAP := Lib.hid hap
        have HAL := Lib.hid hal
        have HROW := Lib.hid hrow
        have HLOW := Lib.hid hlow
        have HBB := Lib.hid hb
        have HF := Lib.hid hf
        have HST2 := Lib.hid hst
        have HRC := Lib.hid hrc
        have HL1 := Lib.hid hl1
        have HL2 := Lib.hid hl2
        have HOB : Hid (wr.heap[B + 2]? = some (.cells (cells9 h o1 l1 c1 o2 l2 c2) 30 (0, 0))) := blk_fr hf (by omega) HD2.out
        clear hfl hap hal hrow hlow hb hf hst hrc hl1 hl2
        obtain ⟨⟨x0, x1, x2, x3, x4, x5, x6, x7, x8⟩, _⟩ := block9 HBB.out
        obtain ⟨⟨u0, u1, u2, u3, u4, u5, u6, u7, u8⟩, _⟩ := block9 HOB.out
        by_cases hlt : i < l2
        · have hlt' : (i : Int) < l2 := by omega
          obtain ⟨b9, off, hd, qs, p1, m1, d1, p2, m2, d2, rfl, hd1, hg, hRb, hc9, hsl, ht1⟩ := HS.out.nth hlt
          have hsq := To.size_get ps i hd qs hg
          have hbl := HRL.out b9 hRb
          have hfw : Fr (fun k => k = B) w wr := (HQ0.out.trans HQ1.out).fr.trans HF.out
          have hnl : ∀ k, k < w.heap.size → ¬ k = B := fun k hk h => by have := HBE.out; omega
          have hc9w := hc9.fr hfw (hnl _ (by have := HBE.out; omega))
          have hslw := hsl.fr hfw (T := R) (fun k hk hr => ⟨hr, hnl k hk⟩)
          have ht1w := ht1.fr hfw (T := R) (fun k hk hr => ⟨hr, hnl k hk⟩)
          have hNw := HN.out.fr (T' := T) hfw (fun k hk ht => ⟨ht, hnl k hk⟩)
          have hNw' := HN'.out.fr (T' := T') hfw (fun k hk ht => ⟨ht, hnl k hk⟩)
          have hwr := hfw.size
          have henv : (envOf h.k h.nm i x).length ≤ nn + 1 := by have := HNL.out; unfold envOf; split <;> simp <;> omega
          have hee := env_len h.k h.nm nm2 i HXY.out
          have HAR1 : Hid (∀ W, Quiet0 wr W → Calls Tryd.prog 41 #[tmv h o1 l1 c1 (some ⟨b9, off, none⟩) l2 c2, .int .i64 (i : Nat), .slice no nn nc] W (NmPost T W (envOf h.k h.nm i x))) := fun W hq => around_any h o1 l1 c1 _ l2 c2 i T x no nn nc W (hNw.stay hq) (by omega)
          have HAR2 : Hid (∀ W, Quiet0 wr W → Calls Tryd.prog 41 #[tmv { h with nm := nm2 } o1 l1 c1 vo i vc, .int .i64 (i : Nat), .slice no' nn nc'] W (NmPost T' W (envOf h.k nm2 i y))) := fun W hq => around_any { h with nm := nm2 } o1 l1 c1 vo i vc i T' y no' nn nc' W (hNw'.stay hq) (by omega)
          have HFR : Hid (∀ (W : World) (T T' : Nat → Prop) (no : Option Addr) (nc : Nat) (no' : Option Addr) (nc' : Nat), NmIn T W no (envOf h.k h.nm i x).length (envOf h.k h.nm i x) → NmIn T' W no' (envOf h.k nm2 i y).length (envOf h.k nm2 i y) → Quiet0 wr W → Calls Tryd.prog 56 #[tmv hd p1 m1 d1 p2 m2 d2, .slice no (envOf h.k h.nm i x).length nc, .slice no' (envOf h.k nm2 i y).length nc', .slice ro lr.length rc] W (RcQ okN R L W (envOf h.k h.nm i x) (envOf h.k nm2 i y) lr hd qs p1 m1 d1 m2)) := fun W T T' no nc no' nc' hN hN' hq => by
            have hWz := hq.size
            have hw0 := HQ0.out.size
            rw [← hee] at hN' ⊢
            exact IH.out i hd qs hg W R T T' L p1 m1 d1 p2 m2 d2 no _ nc _ no' nc' _ ro rc lr (hslw.stay hq) (ht1w.stay hq) hN hN' (HST2.out.stay hq) HRC.out HL1.out HL2.out (by omega) (fun k hk => by have := HRL.out k hk; have := HBE.out; omega) (fun k hk => by have := HLW.out k hk; have := HBE.out; omega)
          have hcr := call1_rest okN (envOf h.k h.nm i x) (envOf h.k nm2 i y) lr hd qs
          have HD : Hid ((f.app (.cons (call1 okN (envOf h.k h.nm i x) (envOf h.k nm2 i y) lr hd qs).1 (call1 okN (envOf h.k h.nm i x) (envOf h.k nm2 i y) lr hd qs).2.1 .nil)).app (callR okN h.k h.nm nm2 (i + 1) x y (call1 okN (envOf h.k h.nm i x) (envOf h.k nm2 i y) lr hd qs).2.2 (ps.drop (i + 1))).1 = FP) := by
            have := HAP.out; rw [hd1, callR_cons] at this; show _ = _; rw [← this]; exact (to_app_assoc' f _ _ _).symm
          have HDL : Hid ((callR okN h.k h.nm nm2 (i + 1) x y (call1 okN (envOf h.k h.nm i x) (envOf h.k nm2 i y) lr hd qs).2.2 (ps.drop (i + 1))).2 = FL) := by
            have := HAL.out; rw [hd1, callR_cons] at this; exact this
          have HSL : Hid (SlcIn R wr p1 m1 (call1 okN (envOf h.k h.nm i x) (envOf h.k nm2 i y) lr hd qs).1.tp) := by
            obtain ⟨s, hs⟩ := call1_head okN (envOf h.k h.nm i x) (envOf h.k nm2 i y) lr hd qs
            show SlcIn _ _ _ _ _; rw [hs]; exact hslw
          have HC9 := Lib.hid hc9w
          have HCR : Hid ((call1 okN (envOf h.k h.nm i x) (envOf h.k nm2 i y) lr hd qs).2.2.length ≤ 1000 ∧ ∀ s ∈ (call1 okN (envOf h.k h.nm i x) (envOf h.k nm2 i y) lr hd qs).2.2, s.size ≤ 1000) := ⟨Nat.le_trans hcr.1 HL1.out, fun s hs => HL2.out s (hcr.2 s hs)⟩
          obtain ⟨nb, hnb⟩ : ∃ nb : Nd, nb = { h with nm := nm2 } := ⟨_, rfl⟩
          rw [← hnb] at HAR2 HBB
          have HNB := Lib.hid hnb
          clear hnb
          unfold tmv at HAR1 HAR2 HFR
          unfold RcQ at HFR
          generalize call1 okN (envOf h.k h.nm i x) (envOf h.k nm2 i y) lr hd qs = q at *
          obtain ⟨gh, gp, lq⟩ := q
          dsimp only at HD HDL HSL HCR HFR
          unfold tmv at HFR
          generalize envOf h.k h.nm i x = E at *
          generalize envOf h.k nm2 i y = E' at *
          have HCB : Hid (∀ W, Fr (fun j => wr.heap.size ≤ j) wr W → (W.cell? ⟨B, 0, none⟩ = some (.int .i64 nb.k) ∧ W.cell? ⟨B, 1, none⟩ = some (.string nb.nm) ∧ W.cell? ⟨B, 2, none⟩ = some (.int .i64 nb.n) ∧ W.cell? ⟨B, 3, none⟩ = some (.int .i64 nb.tk) ∧ W.cell? ⟨B, 4, none⟩ = some (.int .i64 nb.tn) ∧ W.cell? ⟨B, 5, none⟩ = some (.slice o1 l1 c1) ∧ W.cell? ⟨B, 6, none⟩ = some (.slice vo i vc) ∧ W.cell? ⟨B, 7, none⟩ = some (.int .i64 nb.fr) ∧ W.cell? ⟨B, 8, none⟩ = some (.int .i64 nb.en)) ∧ (W.cell? ⟨B + 2, 0, none⟩ = some (.int .i64 h.k) ∧ W.cell? ⟨B + 2, 1, none⟩ = some (.string h.nm) ∧ W.cell? ⟨B + 2, 2, none⟩ = some (.int .i64 h.n) ∧ W.cell? ⟨B + 2, 3, none⟩ = some (.int .i64 h.tk) ∧ W.cell? ⟨B + 2, 4, none⟩ = some (.int .i64 h.tn) ∧ W.cell? ⟨B + 2, 5, none⟩ = some (.slice o1 l1 c1) ∧ W.cell? ⟨B + 2, 6, none⟩ = some (.slice (some ⟨b9, off, none⟩) l2 c2) ∧ W.cell? ⟨B + 2, 7, none⟩ = some (.int .i64 h.fr) ∧ W.cell? ⟨B + 2, 8, none⟩ = some (.int .i64 h.en)) ∧ (W.cell? ⟨b9, off + i * 9, none⟩ = some (.int .i64 hd.k) ∧ W.cell? ⟨b9, off + i * 9 + 1, none⟩ = some (.string hd.nm) ∧ W.cell? ⟨b9, off + i * 9 + 2, none⟩ = some (.int .i64 hd.n) ∧ W.cell? ⟨b9, off + i * 9 + 3, none⟩ = some (.int .i64 hd.tk) ∧ W.cell? ⟨b9, off + i * 9 + 4, none⟩ = some (.int .i64 hd.tn) ∧ W.cell? ⟨b9, off + i * 9 + 5, none⟩ = some (.slice p1 m1 d1) ∧ W.cell? ⟨b9, off + i * 9 + 6, none⟩ = some (.slice p2 m2 d2) ∧ W.cell? ⟨b9, off + i * 9 + 7, none⟩ = some (.int .i64 hd.fr) ∧ W.cell? ⟨b9, off + i * 9 + 8, none⟩ = some (.int .i64 hd.en))) := fun W hq => ⟨(cells9_block HBB.out).fr hq (by have := lt_of_block HBB.out; omega), (cells9_block HOB.out).fr hq (by have := lt_of_block HOB.out; omega), HC9.out.fr hq (by have := HC9.out.lt; omega)⟩
          have HRW : Hid (∀ k, R k → k < wr.heap.size) := fun k hk => by have := HRL.out k hk; have := HBE.out; omega
          have HLW2 : Hid (∀ k, L k → k < wr.heap.size) := fun k hk => by have := HLW.out k hk; have := HBE.out; omega
          clear hd1 hg hsl hslw ht1 ht1w hsq hRb hc9 hc9w henv hNw hNw' hfw hnl hbl hee hcr
          go_upto_region 15 with fail
          clear x0 x1 x2 x3 x4 x5 x6 x7 x8 u0 u1 u2 u3 u4 u5 u6 u7 u8
          go_cut [13, 14] (fun v13 v14 wx => RcM R L wr gh gp lq p1 m1 d1 m2 v13 v14 wx)
          case first =>
            try clear HQ0
            try clear HB0
            try clear HB1
            try clear HZ
            try clear HS1
            try clear HS
            try clear HN
            try clear HN'
            try clear HXY
            try clear HNL
            try clear IH
            try clear HLL
            try clear HLS
            try clear HRL
            try clear HLW
            try clear HL
            try clear HC1
            try clear HFP
            try clear HFL
            try clear HLN
            try clear HD1
            try clear HD2
            try clear HQ1
            try clear HBE
            try clear HBK
            try clear HBX
            try clear HFX
            try clear HST
            try clear HBY
            try clear HFY
            try clear HSY
            try clear HRC0
            try clear HLR
            try clear HMM
            try clear HFLN
            try clear HAP
            try clear HAL
            try clear HROW
            try clear HLOW
            try clear HBB
            try clear HF
            try clear HST2
            try clear HRC
            try clear HL1
            try clear HL2
            try clear HOB
            try clear HD
            try clear HDL
            try clear HSL
            try clear HC9
            try clear HCR
            try clear HNB
            try clear hps
            try clear hwr
            try clear hll
            have hqc := Quiet0.refl wr
            go_region_held3 (fun W => (W.cell? ⟨B, 0, none⟩ = some (.int .i64 nb.k) ∧ W.cell? ⟨B, 1, none⟩ = some (.string nb.nm) ∧ W.cell? ⟨B, 2, none⟩ = some (.int .i64 nb.n) ∧ W.cell? ⟨B, 3, none⟩ = some (.int .i64 nb.tk) ∧ W.cell? ⟨B, 4, none⟩ = some (.int .i64 nb.tn) ∧ W.cell? ⟨B, 5, none⟩ = some (.slice o1 l1 c1) ∧ W.cell? ⟨B, 6, none⟩ = some (.slice vo i vc) ∧ W.cell? ⟨B, 7, none⟩ = some (.int .i64 nb.fr) ∧ W.cell? ⟨B, 8, none⟩ = some (.int .i64 nb.en)) ∧ (W.cell? ⟨B + 2, 0, none⟩ = some (.int .i64 h.k) ∧ W.cell? ⟨B + 2, 1, none⟩ = some (.string h.nm) ∧ W.cell? ⟨B + 2, 2, none⟩ = some (.int .i64 h.n) ∧ W.cell? ⟨B + 2, 3, none⟩ = some (.int .i64 h.tk) ∧ W.cell? ⟨B + 2, 4, none⟩ = some (.int .i64 h.tn) ∧ W.cell? ⟨B + 2, 5, none⟩ = some (.slice o1 l1 c1) ∧ W.cell? ⟨B + 2, 6, none⟩ = some (.slice (some ⟨b9, off, none⟩) l2 c2) ∧ W.cell? ⟨B + 2, 7, none⟩ = some (.int .i64 h.fr) ∧ W.cell? ⟨B + 2, 8, none⟩ = some (.int .i64 h.en)) ∧ (W.cell? ⟨b9, off + i * 9, none⟩ = some (.int .i64 hd.k) ∧ W.cell? ⟨b9, off + i * 9 + 1, none⟩ = some (.string hd.nm) ∧ W.cell? ⟨b9, off + i * 9 + 2, none⟩ = some (.int .i64 hd.n) ∧ W.cell? ⟨b9, off + i * 9 + 3, none⟩ = some (.int .i64 hd.tk) ∧ W.cell? ⟨b9, off + i * 9 + 4, none⟩ = some (.int .i64 hd.tn) ∧ W.cell? ⟨b9, off + i * 9 + 5, none⟩ = some (.slice p1 m1 d1) ∧ W.cell? ⟨b9, off + i * 9 + 6, none⟩ = some (.slice p2 m2 d2) ∧ W.cell? ⟨b9, off + i * 9 + 7, none⟩ = some (.int .i64 hd.fr) ∧ W.cell? ⟨b9, off + i * 9 + 8, none⟩ = some (.int .i64 hd.en)))
              (first
                | ((have hzz := z0); (clear hzz); (with_reducible refine HCB.out _ ?_); (with_reducible refine nine_keep hqc ?hb9); (case hb9 => (first | with_reducible assumption | omega)))
                | ((with_reducible refine HCB.out _ ?_); (repeat (first | with_reducible exact Quiet0.fr hqc | with_reducible exact Fr.refl _ _ | with_reducible refine Fr.trans ?_ (Fr.alloc _ _ _) | with_reducible refine Fr.trans ?_ (Fr.drew _ _) | fail)); done)
                | fail)
              (first
                | (go_at_call 41; (with_reducible refine Calls.mono (HAR1.out _ ?hq) ?_); (case hq => (repeat (first | with_reducible exact hqc | with_reducible exact Quiet0.refl _ | with_reducible refine Quiet0.trans ?_ (Quiet0.alloc _ _) | with_reducible refine Quiet0.trans ?_ (Quiet0.drew _) | fail))); rintro e wx ⟨no2, nc2, rfl, hn1, hqx⟩; (try (refine with_nm hn2 ?hq3 hqx ?_; (case hq3 => (repeat (first | with_reducible exact Quiet0.refl _ | with_reducible refine Quiet0.trans ?_ (Quiet0.alloc _ _) | with_reducible refine Quiet0.trans ?_ (Quiet0.drew _) | fail))); intro hn2)); (first | (with_reducible have hbz := box_after hqx) | (with_reducible have hbz := box_after_drew hqx) | (with_reducible replace hbz := blk_after hqx hbz) | (with_reducible replace hbz := blk_after hqx (blk_drew hbz)) | skip); (refine with_q (w0 := wr) ?hq2 hqx ?_); (case hq2 => (repeat (first | with_reducible exact hqc | with_reducible exact Quiet0.refl _ | with_reducible refine Quiet0.trans ?_ (Quiet0.alloc _ _) | with_reducible refine Quiet0.trans ?_ (Quiet0.drew _) | fail))); intro hqc; have hszk := Fr.size hqc; have hszx := Fr.size hqx; (try simp only [rc_asz, rc_dsz] at hszx))
                | (go_at_call 41; (with_reducible refine Calls.mono (HAR2.out _ ?hq) ?_); (case hq => (repeat (first | with_reducible exact hqc | with_reducible exact Quiet0.refl _ | with_reducible refine Quiet0.trans ?_ (Quiet0.alloc _ _) | with_reducible refine Quiet0.trans ?_ (Quiet0.drew _) | fail))); rintro e wx ⟨no3, nc3, rfl, hn2, hqx⟩; (try (refine with_nm hn1 ?hq3 hqx ?_; (case hq3 => (repeat (first | with_reducible exact Quiet0.refl _ | with_reducible refine Quiet0.trans ?_ (Quiet0.alloc _ _) | with_reducible refine Quiet0.trans ?_ (Quiet0.drew _) | fail))); intro hn1)); (first | (with_reducible have hbz := box_after hqx) | (with_reducible have hbz := box_after_drew hqx) | (with_reducible replace hbz := blk_after hqx hbz) | (with_reducible replace hbz := blk_after hqx (blk_drew hbz)) | skip); (refine with_q (w0 := wr) ?hq2 hqx ?_); (case hq2 => (repeat (first | with_reducible exact hqc | with_reducible exact Quiet0.refl _ | with_reducible refine Quiet0.trans ?_ (Quiet0.alloc _ _) | with_reducible refine Quiet0.trans ?_ (Quiet0.drew _) | fail))); intro hqc; have hszk := Fr.size hqc; have hszx := Fr.size hqx; (try simp only [rc_asz] at hszx))
                | (go_at_call 56; (with_reducible refine Calls.mono (HFR.out _ _ _ _ _ _ _ (hn1.stay ?hq3) (hn2.stay ?hq4) ?hq) ?_); (case hq3 => (repeat (first | with_reducible exact Quiet0.refl _ | with_reducible refine Quiet0.trans ?_ (Quiet0.alloc _ _) | with_reducible refine Quiet0.trans ?_ (Quiet0.drew _) | fail))); (case hq4 => (repeat (first | with_reducible exact Quiet0.refl _ | with_reducible refine Quiet0.trans ?_ (Quiet0.alloc _ _) | with_reducible refine Quiet0.trans ?_ (Quiet0.drew _) | fail))); (case hq => (repeat (first | with_reducible exact hqc | with_reducible exact Quiet0.refl _ | with_reducible refine Quiet0.trans ?_ (Quiet0.alloc _ _) | with_reducible refine Quiet0.trans ?_ (Quiet0.drew _) | fail))); rintro e wx ⟨r2, e2, rs, rt, rfl, ht2, hst2, hrc2, hqx⟩; (first | (with_reducible have hbz := box_after hqx) | (with_reducible have hbz := box_after_drew hqx) | (with_reducible replace hbz := blk_after hqx hbz) | (with_reducible replace hbz := blk_after hqx (blk_drew hbz)) | fail); (refine with_q (w0 := wr) ?hq2 hqx ?_); (case hq2 => (repeat (first | with_reducible exact hqc | with_reducible exact Quiet0.refl _ | with_reducible refine Quiet0.trans ?_ (Quiet0.alloc _ _) | with_reducible refine Quiet0.trans ?_ (Quiet0.drew _) | fail))); intro hqc; have hszk := Fr.size hqc; have hszx := Fr.size hqx; (try simp only [rc_asz] at hszx); obtain ⟨⟨z0, z1, z2, z3, z4, z5, z6, z7, z8⟩, t0, t1, t2, t3, t4, t5, t6, t7, t8⟩ := block9 hbz)
                | (go_at_call 56; (with_reducible refine Calls.mono (HFR.out _ _ _ _ _ _ _ (hn1.stay ?hq3) (hn2.stay ?hq4) ?hq) ?_); (case hq3 => (repeat (first | with_reducible exact Quiet0.refl _ | with_reducible refine Quiet0.trans ?_ (Quiet0.alloc _ _) | with_reducible refine Quiet0.trans ?_ (Quiet0.drew _) | fail))); (case hq4 => (repeat (first | with_reducible exact Quiet0.refl _ | with_reducible refine Quiet0.trans ?_ (Quiet0.alloc _ _) | with_reducible refine Quiet0.trans ?_ (Quiet0.drew _) | fail))); (case hq => (repeat (first | with_reducible exact hqc | with_reducible exact Quiet0.refl _ | with_reducible refine Quiet0.trans ?_ (Quiet0.alloc _ _) | with_reducible refine Quiet0.trans ?_ (Quiet0.drew _) | fail))); rintro e wx ⟨r2, e2, rs, rt, rfl, ht2, hst2, hrc2, hqx⟩; (refine with_q (w0 := wr) ?hq2 hqx ?_); (case hq2 => (repeat (first | with_reducible exact hqc | with_reducible exact Quiet0.refl _ | with_reducible refine Quiet0.trans ?_ (Quiet0.alloc _ _) | with_reducible refine Quiet0.trans ?_ (Quiet0.drew _) | fail))); intro hqc; have hszk := Fr.size hqc; have hszx := Fr.size hqx; (try simp only [rc_asz, rc_dsz] at hszx))
                | fail)
            all_goals
              go_wp2_with fail
              go_meet
              first
                | (with_reducible exact rcm_new hqc (by first | omega | (simp only [rc_asz]; omega)) ht2 hst2 hrc2)
                | (refine rcm_old hbz ?_ ?_ HRW.out HLW2.out hqc ?_ ht2 hst2 hrc2 <;> first | omega | (simp only [rc_asz]; omega))
                | (exact (rcm_new hqc (by first | omega | (simp only [rc_asz, rc_dsz]; omega)) ht2 hst2 hrc2).drew)
                | (refine (rcm_old hbz ?_ ?_ HRW.out HLW2.out hqc ?_ ht2 hst2 hrc2).drew <;> first | omega | (simp only [rc_asz, rc_dsz]; omega))
          case rest =>
            rename World => wm
            obtain ⟨b, r2, e2, rs, rt, rfl, rfl, hbp, hwb, ht2, hst2, hrc2, hqm⟩ := hcut
            have HBP := Lib.hid hbp
            have HT2 := Lib.hid ht2
            have HST3 := Lib.hid hst2
            have HRC3 := Lib.hid hrc2
            have HQM := Lib.hid hqm
            obtain ⟨⟨x0, x1, x2, x3, x4, x5, x6, x7, x8⟩, _⟩ := block9 (blk_after hqm HBB.out)
            obtain ⟨⟨u0, u1, u2, u3, u4, u5, u6, u7, u8⟩, _⟩ := block9 hbp
            have HOWN : Hid (wm.ownsRow 0 30 9 (.slice vo i vc) i xs) := by have := (HROW.out.stay hqm).own; rw [HFLN.out] at this; exact this
            clear hbp ht2 hst2 hrc2 hqm
            go_wp2_with (at_builtin; go_must (refine wpList_append_one wm rfl (.tmp 91) (.tmp 93) 26 rfl 30 _ 9 112 elemTm (.slice vo i vc) i xs rfl HOWN.out (cells9 gh p1 m1 d1 r2 m2 e2) rfl rfl ?c1 ?c2 ?c3 ?_))
            case c1 => simp [Value.oneCell']
            case c2 => unfold maxLen; omega
            case c3 => omega
            intro g4 c4 w4 ho4 hf4 hg4
            have hqf := HQM.out.fr.trans hf4
            have HO4 := Lib.hid ho4
            have HF4 := Lib.hid hf4
            have HG4 : Hid ((Value.slice vo i vc).ownBlock = some g4 ∨ wm.heap.size ≤ g4) := hg4
            clear ho4 hf4 hg4 x0 x1 x2 x3 x4 x5 x6 x7 x8 u0 u1 u2 u3 u4 u5 u6 u7 u8
            obtain ⟨⟨_, _, _, _, _, _, xf6, _, _⟩, _, _, _, _, _, _, yf6, _, _⟩ := block9 (blk_fr hqf (fun e => by have := HLOW.out _ e; omega) HBB.out)
            clear hqf
            go_wp2_with fail
            go_roundw
            case rel =>
              exact rcI_next hlt HFLN.out HD.out HDL.out HROW.out HLOW.out (by rw [HBB.out, HNB.out]) HF.out HQM.out HSL.out HT2.out (fun k hk => by have := HRL.out k hk; have := HBE.out; omega) (fun k hk => by have := HLW.out k hk; have := HBE.out; omega) HZ1.out HO4.out HF4.out HG4.out HST3.out HRC3.out HCR.out.1 HCR.out.2
            case measure => simp [intOf] <;> omega
        · have hlt' : ¬ (i : Int) < l2 := by omega
          have hil : i = l2 := by omega
          subst hil
          have hb1 := blk_fr HF.out (by omega) HD1.out
          have HK1 := Lib.hid hb1
          obtain ⟨⟨z0, z1, z2, z3, z4, z5, z6, z7, z8⟩, t0, t1, t2, t3, t4, t5, t6, t7, t8⟩ := block9 hb1
          clear hb1
          go_wp2_with fail
          clear u0 u1 u2 u3 u4 u5 u6 u7 u8
          have hff := put9_fr wr (B + 1) (.int .i64 h.k) (.string nm2) (.int .i64 h.n) (.int .i64 h.tk) (.int .i64 h.tn) (.slice o1 l1 c1) (.slice vo i vc) (.int .i64 h.fr) (.int .i64 h.en)
          have hbf := put9_block (a0 := .int .i64 h.k) (a1 := .string nm2) (a2 := .int .i64 h.n) (a3 := .int .i64 h.tk) (a4 := .int .i64 h.tn) (a5 := .slice o1 l1 c1) (a6 := .slice vo i vc) (a7 := .int .i64 h.fr) (a8 := .int .i64 h.en) HK1.out
          change bodyPost _ _ _ _ _ (put9 wr (B + 1) (.int .i64 h.k) (.string nm2) (.int .i64 h.n) (.int .i64 h.tk) (.int .i64 h.tn) (.slice o1 l1 c1) (.slice vo i vc) (.int .i64 h.fr) (.int .i64 h.en))
          clear x0 x1 x2 x3 x4 x5 x6 x7 x8 z0 z1 z2 z3 z4 z5 z6 z7 z8 t0 t1 t2 t3 t4 t5 t6 t7 t8
          generalize put9 wr (B + 1) (.int .i64 h.k) (.string nm2) (.int .i64 h.n) (.int .i64 h.tk) (.int .i64 h.tn) (.slice o1 l1 c1) (.slice vo i vc) (.int .i64 h.fr) (.int .i64 h.en) = wf at *
          obtain ⟨⟨x0, x1, x2, x3, x4, x5, x6, x7, x8⟩, _⟩ := block9 hbf
          have HFIN : Hid (RcQ okN R L w x y l h ps o1 l1 c1 i (.returned (.tuple #[.agg #[.int .i64 h.k, .string nm2, .int .i64 h.n, .int .i64 h.tk, .int .i64 h.tn, .slice o1 l1 c1, .slice vo i vc, .int .i64 h.fr, .int .i64 h.en], .slice ro lr.length rc])) wf) := by
            have hB := HBE.out
            have hz := HZ1.out
            have hdr := To.drop_end ps i (by have := HL.out; omega)
            have hfe : f = FP := by
              have := HAP.out
              rw [hdr] at this
              rw [← this]; show f = f.app .nil; rw [To.app_nil]
            have hle : lr = FL := by
              have := HAL.out
              rw [hdr] at this
              exact this
            subst hfe
            subst hle
            refine ⟨vo, vc, ro, rc, by rw [HC1.out]; rfl, ?_, ?_, by rw [HC1.out]; exact HRC.out, ?_⟩
            · rw [HC1.out]
              exact (HROW.out.slc HFLN.out.symm (by unfold maxLen; omega)).fr hff (fun k _ hk => by
                rcases hk with h | h
                · exact ⟨.inl h, fun e => by have := HRL.out k h; omega⟩
                · exact ⟨.inr (by omega), fun e => by omega⟩)
            · rw [HC1.out]
              exact HST2.out.fr hff (fun k _ hk => ⟨hk, fun e => by have := HLW.out k hk; omega⟩)
            · exact (((HQ0.out.trans HQ1.out)).trans' HF.out (fun k hk h => by omega)).trans' hff (fun k hk h => by omega)
          clear hff hbf
          refine bodyPost_ret (by simp [results, Tryd.results56, go_sem, x0, x1, x2, x3, x4, x5, x6, x7, x8]; rfl) rfl ?_
          exact HFIN.out
end Sc
end Go.Proofs.YtnfodiedalhlhaaDoor
end
section
namespace Go.Proofs.YtnfodiedalhlhaaDoor
open Go.RowKit Go.Shelf
namespace Sc
def RenQ (R : Nat → Prop) (w : World) (g : Nd) (gs : To) (o1 : Option Addr) (l1 c1 l2 : Nat) (x : Ending) (w' : World) : Prop :=
  ∃ (o2 : Option Addr) (c2 : Nat), x = .returned (tmv g o1 l1 c1 o2 l2 c2) ∧ SlcIn (fun k => R k ∨ w.heap.size ≤ k) w' o1 l1 g.tp ∧ TSlc (fun k => R k ∨ w.heap.size ≤ k) w' o2 l2 gs ∧ Quiet0 w w'
theorem renq_fin {R : Nat → Prop} {w W0 w3 : World} {g : Nd} {gs : To} {o1 : Option Addr} {l1 c1 l2 : Nat} {o2 : Option Addr} {c2 B : Nat} (hB : w.heap.size = B) (hz : W0.heap.size = B + 2) (hq0 : Quiet0 w W0) (hq : Quiet0 W0 w3) (hR : ∀ k, R k → k < w.heap.size) (h1 : SlcIn R w o1 l1 g.tp) (h2 : TSlc (fun k => R k ∨ W0.heap.size ≤ k) w3 o2 l2 gs) :
    RenQ R w g gs o1 l1 c1 l2 (.returned (.agg #[.int .i64 g.k, .string g.nm, .int .i64 g.n, .int .i64 g.tk, .int .i64 g.tn, .slice o1 l1 c1, .slice o2 l2 c2, .int .i64 g.fr, .int .i64 g.en])) (put9 w3 (B + 1) (.int .i64 g.k) (.string g.nm) (.int .i64 g.n) (.int .i64 g.tk) (.int .i64 g.tn) (.slice o1 l1 c1) (.slice o2 l2 c2) (.int .i64 g.fr) (.int .i64 g.en)) := by
  have hff := put9_fr w3 (B + 1) (.int .i64 g.k) (.string g.nm) (.int .i64 g.n) (.int .i64 g.tk) (.int .i64 g.tn) (.slice o1 l1 c1) (.slice o2 l2 c2) (.int .i64 g.fr) (.int .i64 g.en)
  have hqq := hq0.trans hq
  refine ⟨o2, c2, rfl, ?_, ?_, Fr.trans' hqq hff (fun k hk e => by omega)⟩
  · exact ((h1.fr (T := R) hqq (fun k _ hk => ⟨hk, fun h => h⟩)).fr (T := R) hff (fun k _ hk => ⟨hk, fun e => by have := hR k hk; omega⟩)).mono (fun k _ hk => .inl hk)
  · exact h2.fr hff (fun k _ hk => ⟨hk.imp id (fun h => by omega), fun e => by
      rcases hk with hk | hk
      · have := hR k hk; omega
      · omega⟩)
set_option maxRecDepth 100000 in
set_option maxHeartbeats 8000000 in
theorem rrename_any (h : Nd) (ps : To) (w : World) (R L : Nat → Prop) (o1 : Option Addr) (l1 c1 : Nat) (o2 : Option Addr) (l2 c2 : Nat) (lo : Option Addr) (lc : Nat) (l : List ByteArray) (hs1 : SlcIn R w o1 l1 h.tp) (hs : TSlc R w o2 l2 ps) (hL : StrT L w lo l) (hlc : l.length ≤ lc) (hll : l.length ≤ 1000) (hls : ∀ s ∈ l, s.size ≤ 1000) (hsz : ps.size ≤ 100000) (hR : ∀ k, R k → k < w.heap.size) (hLl : ∀ k, L k → k < w.heap.size) :
    Calls Tryd.prog 27 #[tmv h o1 l1 c1 o2 l2 c2, .slice lo l.length lc] w (RenQ R w (renN h ps l).1 (renN h ps l).2 o1 l1 c1 l2) := by
  obtain ⟨W0, hW0⟩ : ∃ W0, W0 = (w.alloc (.cells (cells9 h o1 l1 c1 o2 l2 c2) 30)).alloc (.cells zero9 30) := ⟨_, rfl⟩
  have HQ0 : Hid (Quiet0 w W0) := by rw [hW0]; exact (Quiet0.alloc _ _).trans (Quiet0.alloc _ _)
  have HB0 : Hid (W0.heap[w.heap.size]? = some (.cells (cells9 h o1 l1 c1 o2 l2 c2) 30 (0, 0))) := by
    show _ = _; rw [hW0, Below.heap_alloc _ _ _ (by simp)]; exact heap_alloc_new w _
  have HB1 : Hid (W0.heap[w.heap.size + 1]? = some (.cells zero9 30 (0, 0))) := by
    show _ = _; rw [hW0]
    have := heap_alloc_new (w.alloc (.cells (cells9 h o1 l1 c1 o2 l2 c2) 30)) (.cells zero9 30)
    simpa using this
  have HZ : Hid (W0.heap.size = w.heap.size + 2) := by show _ = _; rw [hW0]; simp
  have HC : Hid (Calls Tryd.prog 56 #[tmv h o1 l1 c1 o2 l2 c2, .slice none 0 0, .slice none 0 0, .slice lo l.length lc] W0 (RcQ okN R L W0 [] [] l h ps o1 l1 c1 l2)) := by
    have hz := HZ.out
    exact rcall_any h ps W0 R (fun _ => False) (fun _ => False) L o1 l1 c1 o2 l2 c2 none 0 0 [] none 0 [] lo lc l (hs1.stay HQ0.out) (hs.stay HQ0.out) (NmIn.nil _ _ _) (NmIn.nil _ _ _) (hL.stay HQ0.out) hlc hll hls (by omega) (fun k hk => by have := hR k hk; omega) (fun k hk => by have := hLl k hk; omega)
  have HS1 := Lib.hid hs1
  have HS := Lib.hid hs
  have HR := Lib.hid hR
  have HSZ := Lib.hid hsz
  have HRN : Hid (renN h ps l = if refA1 [] [] (call1 okN [] [] l h ps).1 (call1 okN [] [] l h ps).2.1 h ps then ((call1 okN [] [] l h ps).1, (call1 okN [] [] l h ps).2.1) else (h, ps)) := rfl
  have HTP : Hid ((call1 okN [] [] l h ps).1.tp = h.tp) := by
    obtain ⟨s, hs⟩ := call1_head okN [] [] l h ps
    show _ = _; rw [hs]
  have HSC : Hid ((call1 okN [] [] l h ps).2.1.size = ps.size) := by
    show _ = _
    unfold call1; split
    · rfl
    · exact callR_size okN ps _ _ _ _ _ _ _
  clear hs1 hs hL hlc hll hls hsz hR hLl
  unfold RcQ at HC
  generalize renN h ps l = fin at *
  generalize call1 okN [] [] l h ps = q at *
  obtain ⟨g, gs, lq⟩ := q
  dsimp only at HC HRN HTP HSC
  generalize l.length = ln at *
  unfold tmv at HC
  unfold tmv
  go_enter Tryd.func27, Tryd.ntmps27
  go_upto_region 1 with fail
  rw [← hW0]
  clear hW0
  generalize hB : w.heap.size = B at *
  have HBE := Lib.hid hB
  clear hB
  obtain ⟨⟨x0, x1, x2, x3, x4, x5, x6, x7, x8⟩, _⟩ := block9 HB0.out
  go_wp2_with fail
  refine HC.out.mono ?_; rintro x w1 ⟨o3, c3, ro, rc, rfl, ht, _, _, hq1⟩
  obtain ⟨W2, hW2⟩ : ∃ W2, W2 = w1.alloc (.cells (cells9 g o1 l1 c1 o3 l2 c3) 30) := ⟨_, rfl⟩
  have HQ2 : Hid (Quiet0 W0 W2) := by show Quiet0 _ _; rw [hW2]; exact hq1.trans (Quiet0.alloc _ _)
  have HT2 : Hid (TSlc (fun k => R k ∨ W0.heap.size ≤ k) W2 o3 l2 gs) := by show TSlc _ _ _ _ _; rw [hW2]; exact ht.stay (Quiet0.alloc _ _)
  have HBU : Hid (W2.heap[w1.heap.size]? = some (.cells (cells9 g o1 l1 c1 o3 l2 c3) 30 (0, 0))) := by show _ = _; rw [hW2]; exact heap_alloc_new w1 _
  clear ht hq1 x0 x1 x2 x3 x4 x5 x6 x7 x8
  go_upto_region 2 with fail
  change Code.wp _ _ _ _ (w1.alloc (.cells (cells9 g o1 l1 c1 o3 l2 c3) 30))
  rw [← hW2]
  clear hW2
  generalize w1.heap.size = ub at *
  have HA : Hid (Calls Tryd.prog 24 #[tmv g o1 l1 c1 o3 l2 c3, tmv h o1 l1 c1 o2 l2 c2, .slice none 0 0, .slice none 0 0] W2 fun e w' => e = .returned (.bool (refA1 [] [] g gs h ps)) ∧ Quiet0 W2 w') := by
    have hsz := HSZ.out
    have hsc := HSC.out
    have hq := HQ0.out.trans HQ2.out
    refine ref8Alike_any g gs h ps W2 (fun k => R k ∨ W0.heap.size ≤ k) (fun _ => False) (fun _ => False) o1 l1 c1 o3 l2 c3 o1 l1 c1 o2 l2 c2 none 0 0 [] none 0 0 [] ?_ HT2.out ((HS1.out.stay hq).mono (fun k _ hk => .inl hk)) ((HS.out.stay hq).mono (fun k _ hk => .inl hk)) (NmIn.nil _ _ _) (NmIn.nil _ _ _) (by omega) (by omega)
    rw [HTP.out]; exact (HS1.out.stay hq).mono (fun k _ hk => .inl hk)
  unfold tmv at HA
  generalize refA1 [] [] g gs h ps = r at *
  obtain ⟨⟨x0, x1, x2, x3, x4, x5, x6, x7, x8⟩, _⟩ := block9 (blk_after HQ2.out HB0.out)
  obtain ⟨⟨u0, u1, u2, u3, u4, u5, u6, u7, u8⟩, _⟩ := block9 HBU.out
  go_wp2_with fail
  refine HA.out.mono ?_; rintro x w3 ⟨rfl, hq3⟩
  have HQ3 := Lib.hid (HQ2.out.trans hq3)
  have HU3 := Lib.hid (blk_after hq3 HBU.out)
  have HB3 := Lib.hid (blk_after HQ3.out HB0.out)
  have HZ3 := Lib.hid (blk_after HQ3.out HB1.out)
  have HT3 := Lib.hid (HT2.out.stay hq3)
  clear hq3 x0 x1 x2 x3 x4 x5 x6 x7 x8 u0 u1 u2 u3 u4 u5 u6 u7 u8
  obtain ⟨⟨x0, x1, x2, x3, x4, x5, x6, x7, x8⟩, _⟩ := block9 HB3.out
  obtain ⟨⟨u0, u1, u2, u3, u4, u5, u6, u7, u8⟩, _⟩ := block9 HU3.out
  obtain ⟨⟨z0, z1, z2, z3, z4, z5, z6, z7, z8⟩, t0, t1, t2, t3, t4, t5, t6, t7, t8⟩ := block9 HZ3.out
  cases r
  case true =>
    have HE : Hid (fin = (g, gs)) := by have := HRN.out; show fin = (g, gs); simpa using this
    have HFIN := Lib.hid (renq_fin (c1 := c1) (c2 := c3) (g := g) HBE.out HZ.out HQ0.out HQ3.out (fun k hk => by rw [HBE.out]; exact HR.out k hk) (by rw [HTP.out]; exact HS1.out) HT3.out)
    go_wp2_with fail
    have hbf := put9_block (a0 := .int .i64 g.k) (a1 := .string g.nm) (a2 := .int .i64 g.n) (a3 := .int .i64 g.tk) (a4 := .int .i64 g.tn) (a5 := .slice o1 l1 c1) (a6 := .slice o3 l2 c3) (a7 := .int .i64 g.fr) (a8 := .int .i64 g.en) HZ3.out
    change bodyPost _ _ _ _ _ (put9 w3 (B + 1) (.int .i64 g.k) (.string g.nm) (.int .i64 g.n) (.int .i64 g.tk) (.int .i64 g.tn) (.slice o1 l1 c1) (.slice o3 l2 c3) (.int .i64 g.fr) (.int .i64 g.en))
    clear x0 x1 x2 x3 x4 x5 x6 x7 x8 u0 u1 u2 u3 u4 u5 u6 u7 u8 z0 z1 z2 z3 z4 z5 z6 z7 z8 t0 t1 t2 t3 t4 t5 t6 t7 t8
    generalize put9 w3 (B + 1) (.int .i64 g.k) (.string g.nm) (.int .i64 g.n) (.int .i64 g.tk) (.int .i64 g.tn) (.slice o1 l1 c1) (.slice o3 l2 c3) (.int .i64 g.fr) (.int .i64 g.en) = wf at *
    obtain ⟨⟨x0, x1, x2, x3, x4, x5, x6, x7, x8⟩, _⟩ := block9 hbf
    clear hbf
    refine bodyPost_ret (by simp [results, Tryd.results27, go_sem, x0, x1, x2, x3, x4, x5, x6, x7, x8]; rfl) rfl ?_
    rw [HE.out]
    exact HFIN.out
  case false =>
    have HE : Hid (fin = (h, ps)) := by have := HRN.out; show fin = (h, ps); simpa using this
    have HFIN := Lib.hid (renq_fin (c1 := c1) (c2 := c2) (g := h) (gs := ps) (o2 := o2) HBE.out HZ.out HQ0.out HQ3.out (fun k hk => by rw [HBE.out]; exact HR.out k hk) HS1.out ((HS.out.stay (HQ0.out.trans HQ3.out)).mono (fun k _ hk => .inl hk)))
    go_wp2_with fail
    have hbf := put9_block (a0 := .int .i64 h.k) (a1 := .string h.nm) (a2 := .int .i64 h.n) (a3 := .int .i64 h.tk) (a4 := .int .i64 h.tn) (a5 := .slice o1 l1 c1) (a6 := .slice o2 l2 c2) (a7 := .int .i64 h.fr) (a8 := .int .i64 h.en) HZ3.out
    change bodyPost _ _ _ _ _ (put9 w3 (B + 1) (.int .i64 h.k) (.string h.nm) (.int .i64 h.n) (.int .i64 h.tk) (.int .i64 h.tn) (.slice o1 l1 c1) (.slice o2 l2 c2) (.int .i64 h.fr) (.int .i64 h.en))
    clear x0 x1 x2 x3 x4 x5 x6 x7 x8 u0 u1 u2 u3 u4 u5 u6 u7 u8 z0 z1 z2 z3 z4 z5 z6 z7 z8 t0 t1 t2 t3 t4 t5 t6 t7 t8
    generalize put9 w3 (B + 1) (.int .i64 h.k) (.string h.nm) (.int .i64 h.n) (.int .i64 h.tk) (.int .i64 h.tn) (.slice o1 l1 c1) (.slice o2 l2 c2) (.int .i64 h.fr) (.int .i64 h.en) = wf at *
    obtain ⟨⟨x0, x1, x2, x3, x4, x5, x6, x7, x8⟩, _⟩ := block9 hbf
    clear hbf
    refine bodyPost_ret (by simp [results, Tryd.results27, go_sem, x0, x1, x2, x3, x4, x5, x6, x7, x8]; rfl) rfl ?_
    rw [HE.out]
    exact HFIN.out
end Sc
end Go.Proofs.YtnfodiedalhlhaaDoor
end
