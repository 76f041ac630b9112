/-
  Texts laid together (ScRn2): laws and walks, with their conditions in their statements.
-/
import Derived.Test.YtnfodiedalhlhaaDoorRN20
section
namespace Go.Proofs.YtnfodiedalhlhaaDoor
open Go.RowKit Go.Shelf
namespace Sc
theorem nbox_set {L : Nat → Prop} {w : World} {nb : Nat} {l : List ByteArray} {ro : Option Addr} {rc n : Nat} {cur : Value} (h : w.heap[nb]? = some (.cells #[cur] 40 (0, 0))) (hst : StrT L w ro l) (hn : l.length = n) (hrc : n ≤ rc) (hL : ∀ k, L k → k ≠ nb) : NBox L (w.setCell ⟨nb, 0, none⟩ (.slice ro n rc)) nb l := by
  subst hn
  exact ⟨ro, rc, set_block (i := 0) (u := .slice ro l.length rc) h, hst.fr (Fr.setCell (fun k => k = nb) w ⟨nb, 0, none⟩ _ rfl) (fun k _ hk => ⟨hk, hL k hk⟩), hrc⟩
theorem rn_free {w : World} {b : Nat} {v : Value} {ty : TypeId} (h : w.heap[b]? = some (.cells #[v] ty (0, 0))) : w.frozen? ⟨b, 0, none⟩ = false := by simp [World.frozen?, h]
theorem nine_at {P : Nat → Prop} {nb b9 off : Nat} {W1 w2 : World} {v0 v1 v2 v3 v4 v5 v6 v7 v8 : Value} (hf : Fr (fun k => P k ∨ k = nb) W1 w2) : Fr (fun k => k = b9 ∨ (P k ∨ k = nb)) W1 (put9at w2 b9 off v0 v1 v2 v3 v4 v5 v6 v7 v8) :=
  (hf.mono (fun _ _ h => .inr h)).trans ((put9at_fr w2 b9 off v0 v1 v2 v3 v4 v5 v6 v7 v8).mono (fun _ _ h => .inl h))
theorem wide_fr {P : Nat → Prop} {nb b9 : Nat} {W1 w2 : World} (hf : Fr (fun k => P k ∨ k = nb) W1 w2) : Fr (fun k => k = b9 ∨ (P k ∨ k = nb)) W1 w2 := hf.mono (fun _ _ h => .inr h)
theorem bindsB_env (k : Int) (i : Nat) (nm nm2 : ByteArray) (x y : List ByteArray) : (bindsB k i = false → envOf k nm i x = x ∧ envOf k nm2 i y = y) ∧ (bindsB k i = true → envOf k nm i x = nm :: x ∧ envOf k nm2 i y = nm2 :: y) := by
  unfold envOf
  constructor <;> intro h <;> rw [h] <;> exact ⟨rfl, rfl⟩
theorem wide_q {P : Nat → Prop} {W1 w2 : World} (hf : Quiet0 W1 w2) : Fr P W1 w2 := hf.fr
set_option maxRecDepth 100000 in
set_option maxHeartbeats 8000000 in
theorem rn_any (h : Nd) (ps : To) : TRn h ps := by
  refine To.ind' (T := TRn) ?_ h ps
  intro h ps ih
  by_cases hk : h.k = 1
  · exact rn_var h ps hk
  intro w R D L T T' nb fb x y l o1 l1 c1 o2 l2 c2 no nn nc no' nc' hA hfb hnbx hll hls hN hnc hN' hnc' hs1 hs hsz
  have HA := Lib.hid hA
  have HFB := Lib.hid hfb
  have HNB := Lib.hid hnbx
  have HLL := Lib.hid hll
  have HLS := Lib.hid hls
  have HN := Lib.hid hN
  have HN' := Lib.hid hN'
  have HS1 := Lib.hid hs1
  have HS := Lib.hid hs
  have hfl := lt_of_block hfb
  have hnl : nb < w.heap.size := by obtain ⟨_, _, h, _⟩ := hnbx; exact lt_of_block h
  obtain ⟨W0, hW0⟩ : ∃ W0, W0 = (w.alloc (.cells (cells9 h o1 l1 c1 o2 l2 c2) 30)).alloc (.cells zero9 30) := ⟨_, rfl⟩
  have HQ0 : Hid (Quiet0 w W0) := by rw [hW0]; exact (Quiet0.alloc _ _).trans (Quiet0.alloc _ _)
  have HB0 : Hid (W0.heap[w.heap.size]? = some (.cells (cells9 h o1 l1 c1 o2 l2 c2) 30 (0, 0))) := by
    show _ = _; rw [hW0, Below.heap_alloc _ _ _ (by simp)]; exact heap_alloc_new w _
  have HB1 : Hid (W0.heap[w.heap.size + 1]? = some (.cells zero9 30 (0, 0))) := by
    show _ = _; rw [hW0]
    have := heap_alloc_new (w.alloc (.cells (cells9 h o1 l1 c1 o2 l2 c2) 30)) (.cells zero9 30)
    simpa using this
  have HZ : Hid (W0.heap.size = w.heap.size + 2) := by show _ = _; rw [hW0]; simp
  have hk' : (h.k == 1) = false := by simp [hk]
  have IH := Lib.hid ih
  have HL := Lib.hid hs.1
  have hmx := hs.2.1
  have hps := To.length_le ps
  rw [← hs.1] at hps
  have HXY : Hid (x.length = y.length) := by show _ = _; rw [← hN.1, ← hN'.1]
  have HNL := Lib.hid hN.1
  obtain ⟨b9, E, hbe⟩ : ∃ (b9 : Nat) (E : Nat → Nat → Prop), 0 < l2 → (o2 = some ⟨b9, 0, none⟩ ∧ D b9 ∧ TermB w b9 ∧ (∀ j k, E j k → D k ∧ k ≠ b9) ∧ (∀ i j k, E i k → E j k → i = j) ∧ TOI R w E b9 0 ps) := by
    by_cases h0 : 0 < l2
    · obtain ⟨b, E, h1⟩ := hs.2.2 h0
      exact ⟨b, E, fun _ => h1⟩
    · exact ⟨0, fun _ _ => False, fun h => absurd h h0⟩
  have HBE9 := Lib.hid hbe
  obtain ⟨FP, hFP⟩ : ∃ FP, (callR okN h.k h.nm (newNm okN h l) 0 x y (restNm h l) ps).1 = FP := ⟨_, rfl⟩
  obtain ⟨FL, hFL⟩ : ∃ FL, (callR okN h.k h.nm (newNm okN h l) 0 x y (restNm h l) ps).2 = FL := ⟨_, rfl⟩
  have HC1 : Hid (call1 okN x y l h ps = ({ h with nm := newNm okN h l }, FP, FL)) := by show _ = _; unfold call1; rw [if_neg hk, hFP, hFL]
  have HFP := Lib.hid hFP
  have HFL := Lib.hid hFL
  obtain ⟨ro, rc, hnb0, hst0, hrc0⟩ := hnbx
  have HN0 : Hid (W0.heap[nb]? = some (.cells #[.slice ro l.length rc] 40 (0, 0))) := blk_after HQ0.out hnb0
  have HST0 : Hid (StrT L W0 ro l) := hst0.stay HQ0.out
  have HSP : Hid (Lx.Spaces W0) := hA.sp W0 HQ0.out.fr
  have HXA : Hid (∀ k, D k ∨ k = nb → k < w.heap.size) := fun k hk => hk.elim (fun h => hA.d k h) (fun h => by omega)
  obtain ⟨ln, hln⟩ : ∃ ln, l.length = ln := ⟨_, rfl⟩
  have HLN := Lib.hid hln
  rw [hln] at HN0 hll hrc0
  clear hA hfb hls hN hN' hs1 hs hk ih hbe hFP hFL hnb0 hst0 hln
  unfold tmv
  go_enter Tryd.func52, Tryd.ntmps52
  go_upto_region 1 with fail
  rw [← hW0]
  clear hW0
  generalize hB : w.heap.size = B at *
  have HBE := Lib.hid hB
  clear hB
  obtain ⟨⟨x0, x1, x2, x3, x4, x5, x6, x7, x8⟩, y0, y1, y2, y3, y4, y5, y6, y7, y8⟩ := block9 HB0.out
  go_upto_region 7 with fail
  have co := cell_of_one HN0.out
  go_cut [41] (fun v wx => v = .bool (bindK h.k && decide ((ln : Int) > 0)) ∧ W0 = wx)
  case first =>
    have hbn := binds_any h.k 1 W0
    have HBN : Hid (Calls Tryd.prog 47 #[.int .i64 h.k, .int .i64 1] W0 fun e w' => e = .returned (.bool (bindK h.k)) ∧ W0 = w') := by
      have hk : bindsB h.k 1 = bindK h.k := by unfold bindsB bindK; cases h4 : (h.k == 4) <;> cases h6 : (h.k == 6) <;> cases h7 : (h.k == 7) <;> rfl
      rw [hk] at hbn; exact hbn
    clear hbn
    generalize bindK h.k = bk at *
    go_wp2_with fail
    refine HBN.out.mono ?_; rintro x w2 ⟨rfl, rfl⟩
    cases bk
    · go_wp2_with fail
      go_meet
      exact ⟨by simp, rfl⟩
    · go_wp2_with fail
      go_meet
      exact ⟨by simp, rfl⟩
  case rest =>
    obtain ⟨rfl, rfl⟩ := hcut
    go_upto_if 41 with fail
    go_cut [41] (fun _ wx => wx.heap[B]? = some (.cells (cells9 { h with nm := newNm okN h l } o1 l1 c1 o2 l2 c2) 30 (0, 0)) ∧ NBox L wx nb (restNm h l) ∧ Fr (fun k => k = B ∨ k = nb) W0 wx)
    case first =>
      cases hb : (bindK h.k && decide ((ln : Int) > 0))
      case false =>
        have HE : Hid (restNm h l = l ∧ newNm okN h l = h.nm) := by
          show _ ∧ _
          unfold restNm newNm
          cases hbk : bindK h.k
          · refine ⟨by simp, ?_⟩
            cases l <;> simp
          · rw [hbk] at hb
            have : ln = 0 := by simpa using hb
            have hl0 : l = [] := List.eq_nil_of_length_eq_zero (by rw [HLN.out]; exact this)
            rw [hl0]; exact ⟨rfl, rfl⟩
        clear hb
        go_wp2_with fail
        go_meet
        rw [HE.out.1, HE.out.2]
        exact ⟨HB0.out, ⟨ro, rc, by rw [HLN.out]; exact HN0.out, HST0.out, by rw [HLN.out]; exact hrc0⟩, Fr.refl _ _⟩
      case true =>
        have hbk : bindK h.k = true := by
          cases hbk : bindK h.k
          · rw [hbk] at hb; exact absurd hb (by simp)
          · rfl
        have hpos : 0 < ln := by rw [hbk] at hb; simpa using hb
        obtain ⟨a, l', rfl⟩ : ∃ a l', l = a :: l' := by
          cases l with
          | nil => have := HLN.out; simp at this; omega
          | cons a l' => exact ⟨a, l', rfl⟩
        have HE : Hid (restNm h (a :: l') = l' ∧ newNm okN h (a :: l') = if okN a then a else h.nm) := by
          show _ ∧ _
          unfold restNm newNm
          rw [hbk]; exact ⟨rfl, by simp⟩
        obtain ⟨bl, ol, rfl, hLb, g0⟩ := HST0.out.head
        have HLb := Lib.hid hLb
        have hpos' : (0 : Int) < ln := by omega
        have hlm : (1 : Int) ≤ ln := by omega
        have hrcm : (ln : Int) ≤ rc := by omega
        have HNA := Lib.hid (Lx.name_any a (by have := HLS.out a (by simp); omega) W0 HSP.out)
        have HTL := Lib.hid (HST0.out.tail)
        have HLN' : Hid (l'.length = ln - 1) := by have := HLN.out; simp at this; show _ = _; omega
        change Hid (Calls _ _ _ _ (fun e w' => e = .returned (.bool (okN a)) ∧ _)) at HNA
        have HLX : Hid (∀ k, L k → k ≠ nb) := fun k hk => (HA.out.l k hk).2.2
        clear hb hbk hLb
        go_wp2_with fail
        refine HNA.out.mono ?_; rintro z w2 ⟨rfl, hq2⟩
        have HQ2 := Lib.hid hq2
        clear hq2 g0 co x0 x1 x2 x3 x4 x5 x6 x7 x8 y0 y1 y2 y3 y4 y5 y6 y7 y8
        obtain ⟨⟨x0, x1, x2, x3, x4, x5, x6, x7, x8⟩, y0, y1, y2, y3, y4, y5, y6, y7, y8⟩ := block9 (blk_after HQ2.out HB0.out)
        obtain ⟨_, _, he, _, g0⟩ := (HST0.out.stay HQ2.out).head
        cases he
        have HTL2 := Lib.hid (HTL.out.stay HQ2.out)
        have HDB := Lib.hid (blk_after HQ2.out HB0.out)
        have HNB2 := Lib.hid (blk_after HQ2.out HN0.out)
        have co := cell_of_one HNB2.out
        have cf := rn_free HNB2.out
        have hnB : nb ≠ B := by have := HBE.out; omega
        cases ho : okN a
        · go_wp2_with fail
          all_goals
            go_meet
            rw [HE.out.1, HE.out.2, ho]
            have hlen := HLN'.out
            refine ⟨blk_fr (Fr.setCell (fun k => k = nb) w2 ⟨nb, 0, none⟩ _ rfl) (fun e => hnB e.symm) HDB.out, ?_, HQ2.out.fr.trans (Fr.setCell (fun k => k = B ∨ k = nb) w2 ⟨nb, 0, none⟩ _ (.inr rfl))⟩
            first
              | exact nbox_set HNB2.out HTL2.out hlen (by omega) HLX.out
              | (have h0 : l' = [] := List.eq_nil_of_length_eq_zero (by omega); subst h0; exact nbox_set HNB2.out (StrT.nil _ _ _) hlen (by omega) HLX.out)
        · have hfs := Fr.setCell (fun k => k = B) w2 ⟨B, 1, none⟩ (.string a) rfl
          have HBS : Hid ((w2.setCell ⟨B, 1, none⟩ (.string a)).heap[B]? = some (.cells (cells9 { h with nm := a } o1 l1 c1 o2 l2 c2) 30 (0, 0))) := set_block (i := 1) (u := .string a) HDB.out
          have HNB3 := Lib.hid (blk_fr hfs hnB HNB2.out)
          have HTL3 : Hid (StrT L (w2.setCell ⟨B, 1, none⟩ (.string a)) (some ⟨bl, ol + 1, none⟩) l') := HTL2.out.fr hfs (fun k _ hk => ⟨hk, fun e => by have := (HA.out.l k hk).1; have := HBE.out; omega⟩)
          have HFS := Lib.hid hfs
          clear hfs
          go_wp2_with fail
          all_goals
            go_meet
            rw [HE.out.1, HE.out.2, ho]
            have hlen := HLN'.out
            refine ⟨blk_fr (Fr.setCell (fun k => k = nb) _ ⟨nb, 0, none⟩ _ rfl) (fun e => hnB e.symm) HBS.out, ?_, (HQ2.out.fr.trans (HFS.out.mono (fun _ _ h => .inl h))).trans (Fr.setCell (fun k => k = B ∨ k = nb) _ ⟨nb, 0, none⟩ _ (.inr rfl))⟩
            first
              | exact nbox_set HNB3.out HTL3.out hlen (by omega) HLX.out
              | (have h0 : l' = [] := List.eq_nil_of_length_eq_zero (by omega); subst h0; exact nbox_set HNB3.out (StrT.nil _ _ _) hlen (by omega) HLX.out)
    case rest =>
      rename World => wx
      obtain ⟨hbx, hnx, hfx⟩ := hcut
      have hrl := restNm_len h l
      have HMM : Hid (∀ s ∈ restNm h l, s.size ≤ 1000) := fun s hs => HLS.out s (restNm_mem hs)
      have HLR : Hid ((restNm h l).length ≤ 1000) := by show _ ≤ _; have := HLN.out; omega
      generalize newNm okN h l = nm2 at *
      generalize restNm h l = lr0 at *
      clear x0 x1 x2 x3 x4 x5 x6 x7 x8 y0 y1 y2 y3 y4 y5 y6 y7 y8 co hrl
      have HBX := Lib.hid hbx
      have HFX := Lib.hid hfx
      have HNX := Lib.hid hnx
      have HFW : Hid (Fr (fun k => k = B ∨ k = nb) w wx) := HQ0.out.fr.trans hfx
      have HBT : Hid (∀ k, D k → k ≠ B ∧ k ≠ B + 1 ∧ k ≠ nb) := fun k hk => by have := HA.out.d k hk; have := HBE.out; exact ⟨by omega, by omega, fun e => HA.out.nd (e ▸ hk)⟩
      obtain ⟨⟨x0, x1, x2, x3, x4, x5, x6, x7, x8⟩, _⟩ := block9 hbx
      clear hbx hfx hnx
      go_wp2_with fail
      clear x0 x1 x2 x3 x4 x5 x6 x7 x8
      go_loopw [55] (fun t wr => RnI R D L E nb b9 x y h nm2 ps l2 FP FL wx t wr) (fun t _ => l2 - (intOf t).toNat)
      case atStart =>
        refine ⟨0, .nil, lr0, rfl, Nat.zero_le _, rfl, by rw [To.drop_zero]; exact HFP.out, by rw [To.drop_zero]; exact HFL.out, fun h0 => ?_, HNX.out, HLR.out, HMM.out, Fr.refl _ _⟩
        obtain ⟨_, hDb, htb, hE, _, ha⟩ := HBE9.out h0
        rw [To.drop_zero]
        have hnS : ∀ k, D k → ¬ (k = B ∨ k = nb) := fun k hk h => h.elim (HBT.out k hk).1 (HBT.out k hk).2.2
        refine ⟨htb.fr HFW.out (hnS _ hDb), TOI.keep HFW.out (fun k hk hr => ⟨hr, fun e => by have := HA.out.r k hr; have := HBE.out; omega⟩) ps E b9 0 ha (fun c _ _ => ?_) (fun j k hk => hnS _ (hE j k hk).1)⟩
        obtain ⟨cur, hcur⟩ := htb
        exact HFW.out.cellb (lt_of_block hcur) (hnS _ hDb)
      case round =>
        obtain ⟨i, p, lr, rfl, hi, hpl, hpe, hal, hti, hnw, hl1, hl2, hf⟩ := hrel
        have HPL := Lib.hid hpl
        have HPE := Lib.hid hpe
        have HAL := Lib.hid hal
        have HTI := Lib.hid hti
        have HNW := Lib.hid hnw
        have HL1 := Lib.hid hl1
        have HL2 := Lib.hid hl2
        have HF := Lib.hid hf
        have hnD : ¬ (D B ∨ B = nb) := fun h => h.elim (fun h => (HBT.out _ h).1 rfl) (fun h => by have := HBE.out; omega)
        have HBW : Hid (wr.heap[B]? = some (.cells (cells9 { h with nm := nm2 } o1 l1 c1 o2 l2 c2) 30 (0, 0))) := blk_fr hf hnD HBX.out
        clear hpl hpe hal hti hnw hl1 hl2 hf hnD
        by_cases hlt : i < l2
        · have hlt' : (i : Int) < l2 := by omega
          have h0 : 0 < l2 := by omega
          obtain ⟨hob, hDb, _, hE, hdj, _⟩ := HBE9.out h0
          subst hob
          obtain ⟨htb, ha⟩ := HTI.out h0
          obtain ⟨hd, qs, hg⟩ : ∃ hd qs, ps.get i = some (hd, qs) := by
            have hlt2 : i < ps.length := by have := HL.out; omega
            exact get_some ps i hlt2
          have hdr := drop_get ps i hd qs hg
          have HDR := Lib.hid hdr
          have hsq := To.size_get ps i hd qs hg
          rw [hdr] at ha
          obtain ⟨p1, m1, d1, p2, m2, d2, hc9, hsl, hto⟩ := TOI.nth p E b9 0 hd qs _ ha
          rw [HPL.out, Nat.zero_add] at hc9
          rw [HPL.out] at hto
          have HAA := Lib.hid ha
          have HTB := Lib.hid htb
          have HE := Lib.hid hE
          have HDJ := Lib.hid hdj
          have HC9 := Lib.hid hc9
          have hfwr : Fr (fun k => (D k ∨ k = nb) ∨ k = B) w wr := (HFW.out.mono (fun _ _ h => h.elim (fun h => .inr h) (fun h => .inl (.inr h)))).trans (HF.out.mono (fun _ _ h => .inl h))
          have hlow : ∀ k, k < w.heap.size → k ≠ B := fun k hk e => by have := HBE.out; omega
          have hfbD : ¬ ((D fb ∨ fb = nb) ∨ fb = B) := fun h => h.elim (fun h => h.elim HA.out.fd (fun h => HA.out.nf h.symm)) (hlow fb (by have := HBE.out; omega))
          have hrb : RBox wr fb nb := blk_fr hfwr hfbD HFB.out
          have hwz := hfwr.size
          have hB := HBE.out
          have hfw' : Fr (fun k => D k ∨ k = nb) w wr := hfwr.mono (fun k hk h => h.elim id (fun e => absurd e (hlow k hk)))
          obtain ⟨W1, hW1⟩ : ∃ W1, W1 = wr.alloc (.cells (cells9 hd p1 m1 d1 p2 m2 d2) 30) := ⟨_, rfl⟩
          have hq1 : Quiet0 wr W1 := by rw [hW1]; exact Quiet0.alloc _ _
          have hbp : W1.heap[wr.heap.size]? = some (.cells (cells9 hd p1 m1 d1 p2 m2 d2) 30 (0, 0)) := by rw [hW1]; exact heap_alloc_new wr _
          have hz1 : W1.heap.size = wr.heap.size + 1 := by rw [hW1]; simp
          have HQ1 := Lib.hid hq1
          have HC : Hid (∀ (W : World) (T1 T1' : Nat → Prop) (en : Nat) (n1 : Option Addr) (k1 : Nat) (n2 : Option Addr) (k2 : Nat), NmIn T1 W n1 en (envOf h.k h.nm i x) → en ≤ k1 → NmIn T1' W n2 en (envOf h.k nm2 i y) → en ≤ k2 → en ≤ nn + 1 → (∀ k, T1 k → ¬ E i k ∧ k ≠ nb) → (∀ k, T1' k → ¬ E i k ∧ k ≠ nb) → Quiet0 W1 W →
              Calls Tryd.prog 52 #[tmv hd p1 m1 d1 p2 m2 d2, .slice n1 en k1, .slice n2 en k2, .pointer (some ⟨nb, 0, none⟩), .pointer (some ⟨fb, 0, none⟩)] W (RnQ R (E i) L nb (envOf h.k h.nm i x) (envOf h.k nm2 i y) lr hd qs p1 m1 d1 p2 m2 d2 W)) := fun W T1 T1' en n1 k1 n2 k2 hn1 hk1 hn2 hk2 hen ht ht' hq => by
            have hqw := hq1.trans hq
            have hwW := hqw.size
            exact IH.out i hd qs hg W R (E i) L T1 T1' nb fb _ _ lr p1 m1 d1 p2 m2 d2 n1 en k1 n2 k2
              ⟨fun k hk => by have := HA.out.d k (hE _ _ hk).1; omega, fun h => HA.out.nd (hE _ _ h).1, fun h => HA.out.fd (hE _ _ h).1, HA.out.nf,
                fun k hk => ⟨by have := (HA.out.r k hk).1; omega, fun h => (HA.out.r k hk).2.1 (hE _ _ h).1, (HA.out.r k hk).2.2⟩,
                fun k hk => ⟨by have := (HA.out.l k hk).1; omega, fun h => (HA.out.l k hk).2.1 (hE _ _ h).1, (HA.out.l k hk).2.2⟩, ht, ht',
                fun V hV => HA.out.sp V ((hfw'.trans hqw.fr).trans (hV.mono (fun k _ h => h.imp (fun h => (hE _ _ h).1) id)))⟩
              (blk_after hqw hrb) (HNW.out.fr hqw (fun h => h) (fun _ _ h => h)) HL1.out HL2.out hn1 hk1 hn2 hk2 (hsl.stay hqw) (hto.stay hqw) (by omega)
          have hEk : ∀ k, (k = b9 ∨ (E i k ∨ k = nb)) → k < w.heap.size := fun k hk => by
            rcases hk with h | h | h
            · have := HA.out.d b9 hDb; omega
            · exact HA.out.d k (hE _ _ h).1
            · have := HBE.out; omega
          have HCB : Hid (∀ W, Fr (fun k => k = b9 ∨ (E i k ∨ k = nb)) W1 W → W.cell? ⟨B, 6, none⟩ = some (.slice (some ⟨b9, 0, none⟩) l2 c2) ∧ W.cell? ⟨B, 1, none⟩ = some (.string nm2) ∧ W.cell? ⟨fb, 0, none⟩ = some (.func (.func 52) #[] #[.pointer (some ⟨nb, 0, none⟩), .pointer (some ⟨fb, 0, none⟩)]) ∧ (W.cell? ⟨wr.heap.size, 0, none⟩ = some (.int .i64 hd.k) ∧ W.cell? ⟨wr.heap.size, 1, none⟩ = some (.string hd.nm) ∧ W.cell? ⟨wr.heap.size, 2, none⟩ = some (.int .i64 hd.n) ∧ W.cell? ⟨wr.heap.size, 3, none⟩ = some (.int .i64 hd.tk) ∧ W.cell? ⟨wr.heap.size, 4, none⟩ = some (.int .i64 hd.tn) ∧ W.cell? ⟨wr.heap.size, 5, none⟩ = some (.slice p1 m1 d1) ∧ W.cell? ⟨wr.heap.size, 6, none⟩ = some (.slice p2 m2 d2) ∧ W.cell? ⟨wr.heap.size, 7, none⟩ = some (.int .i64 hd.fr) ∧ W.cell? ⟨wr.heap.size, 8, none⟩ = some (.int .i64 hd.en))) := fun W hW => by
            have hcB := (cells9_block (blk_after hq1 HBW.out)).fr hW (fun h => by have := hEk B h; omega)
            have hcf := cell_of_one (blk_fr hW (fun h => by
              rcases h with h | h | h
              · exact HA.out.fd (h ▸ hDb)
              · exact HA.out.fd (hE _ _ h).1
              · exact HA.out.nf h.symm) (blk_after hq1 hrb))
            exact ⟨hcB.2.2.2.2.2.2.1, hcB.2.1, hcf, (cells9_block hbp).fr hW (fun h => by have := hEk _ h; omega)⟩
          have HCS : Hid (∀ W, Fr (fun k => E i k ∨ k = nb) W1 W → (W.cell? ⟨b9, i * 9, none⟩ = some (.int .i64 hd.k) ∧ W.cell? ⟨b9, i * 9 + 1, none⟩ = some (.string hd.nm) ∧ W.cell? ⟨b9, i * 9 + 2, none⟩ = some (.int .i64 hd.n) ∧ W.cell? ⟨b9, i * 9 + 3, none⟩ = some (.int .i64 hd.tk) ∧ W.cell? ⟨b9, i * 9 + 4, none⟩ = some (.int .i64 hd.tn) ∧ W.cell? ⟨b9, i * 9 + 5, none⟩ = some (.slice p1 m1 d1) ∧ W.cell? ⟨b9, i * 9 + 6, none⟩ = some (.slice p2 m2 d2) ∧ W.cell? ⟨b9, i * 9 + 7, none⟩ = some (.int .i64 hd.fr) ∧ W.cell? ⟨b9, i * 9 + 8, none⟩ = some (.int .i64 hd.en)) ∧ TermB W b9) := fun W hW => by
            have hn : ¬ (E i b9 ∨ b9 = nb) := fun h => h.elim (fun h => (hE _ _ h).2 rfl) (fun h => HA.out.nd (h ▸ hDb))
            exact ⟨(hc9.fr hq1 (fun h => h)).fr hW hn, (htb.fr hq1 (fun h => h)).fr hW hn⟩
          obtain ⟨q, hqq⟩ : ∃ q, call1 okN (envOf h.k h.nm i x) (envOf h.k nm2 i y) lr hd qs = q := ⟨_, rfl⟩
          have hcr := call1_rest okN (envOf h.k h.nm i x) (envOf h.k nm2 i y) lr hd qs
          obtain ⟨cs, hcs⟩ := call1_head okN (envOf h.k h.nm i x) (envOf h.k nm2 i y) lr hd qs
          unfold RnQ at HC
          rw [hqq] at HC hcr hcs
          obtain ⟨gh, gp, lq⟩ := q
          dsimp only at HC hcr hcs
          have HGQ := Lib.hid hqq
          have HSL : Hid (SlcIn R wr p1 m1 gh.tp) := by show SlcIn _ _ _ _ _; rw [hcs]; exact hsl
          have HLQ : Hid (lq.length ≤ 1000 ∧ ∀ s ∈ lq, s.size ≤ 1000) := ⟨Nat.le_trans hcr.1 HL1.out, fun s hs => HL2.out s (hcr.2 s hs)⟩
          unfold tmv at HC
          have HNN : Hid (NmIn T W1 no nn x) := (HN.out.fr (T' := T) hfw' (fun k _ hk => ⟨hk, fun h => h.elim (HA.out.t k hk).1 (HA.out.t k hk).2⟩)).stay hq1
          have HNN' : Hid (NmIn T' W1 no' nn y) := (HN'.out.fr (T' := T') hfw' (fun k _ hk => ⟨hk, fun h => h.elim (HA.out.t' k hk).1 (HA.out.t' k hk).2⟩)).stay hq1
          have hpi : i ≤ 200000 := by omega
          have hpm : ((i : Nat) : Int) < l2 := by omega
          have hp0 : (0 : Int) ≤ ((i : Nat) : Int) := by omega
          have HHI : Hid (∀ k, W1.heap.size ≤ k → ¬ E i k ∧ k ≠ nb) := fun k hk => ⟨fun h => by have := hEk k (.inr (.inl h)); omega, fun h => by have := hEk k (.inr (.inr h)); omega⟩
          have HTE : Hid ((∀ k, T k → ¬ E i k ∧ k ≠ nb) ∧ ∀ k, T' k → ¬ E i k ∧ k ≠ nb) := ⟨fun k hk => ⟨fun h => (HA.out.t k hk).1 (hE _ _ h).1, (HA.out.t k hk).2⟩, fun k hk => ⟨fun h => (HA.out.t' k hk).1 (hE _ _ h).1, (HA.out.t' k hk).2⟩⟩
          have HEN := Lib.hid (bindsB_env h.k i h.nm nm2 x y)
          have HBN := Lib.hid (binds_any h.k i W1)
          clear hg hdr hsq ha htb hE hdj hc9 hsl hto hrb hqq hcr hcs hfwr hfw' hfbD hEk hlow
          obtain ⟨⟨x0, x1, x2, x3, x4, x5, x6, x7, x8⟩, y0, y1, y2, y3, y4, y5, y6, y7, y8⟩ := block9 HBW.out
          obtain ⟨u0, u1, u2, u3, u4, u5, u6, u7, u8⟩ := HC9.out
          go_upto_region 14 with fail
          change Code.wp _ _ _ _ (wr.alloc (.cells (cells9 hd p1 m1 d1 p2 m2 d2) 30))
          rw [← hW1]
          clear hW1 x0 x1 x2 x3 x4 x5 x6 x7 x8 y0 y1 y2 y3 y4 y5 y6 y7 y8 u0 u1 u2 u3 u4 u5 u6 u7 u8
          clear hz1
          generalize hpb : wr.heap.size = pb at *
          clear hpb
          obtain ⟨⟨x0, x1, x2, x3, x4, x5, x6, x7, x8⟩, y0, y1, y2, y3, y4, y5, y6, y7, y8⟩ := block9 (blk_after HQ1.out HBW.out)
          go_wp2_with fail
          refine HBN.out.mono ?_; rintro z w2 ⟨rfl, rfl⟩
          clear x0 x1 x2 x3 x4 x5 x6 x7 x8 y0 y1 y2 y3 y4 y5 y6 y7 y8
          cases hb : bindsB h.k i
          case false =>
            obtain ⟨hex, hey⟩ := HEN.out.1 hb
            have HC6 := Lib.hid (fun (W : World) (hq : Quiet0 W1 W) => HC.out W T T' nn no nc no' nc' (by rw [hex]; exact HNN.out.stay hq) hnc (by rw [hey]; exact HNN'.out.stay hq) hnc' (by omega) HTE.out.1 HTE.out.2 hq)
            clear hb hex hey
            go_upto_region 16 with fail
            have hqc := Quiet0.refl W1
            go_region_held3 (fun W => W.cell? ⟨B, 6, none⟩ = some (.slice (some ⟨b9, 0, none⟩) l2 c2) ∧ W.cell? ⟨B, 1, none⟩ = some (.string nm2) ∧ W.cell? ⟨fb, 0, none⟩ = some (.func (.func 52) #[] #[.pointer (some ⟨nb, 0, none⟩), .pointer (some ⟨fb, 0, none⟩)]) ∧ (W.cell? ⟨pb, 0, none⟩ = some (.int .i64 hd.k) ∧ W.cell? ⟨pb, 1, none⟩ = some (.string hd.nm) ∧ W.cell? ⟨pb, 2, none⟩ = some (.int .i64 hd.n) ∧ W.cell? ⟨pb, 3, none⟩ = some (.int .i64 hd.tk) ∧ W.cell? ⟨pb, 4, none⟩ = some (.int .i64 hd.tn) ∧ W.cell? ⟨pb, 5, none⟩ = some (.slice p1 m1 d1) ∧ W.cell? ⟨pb, 6, none⟩ = some (.slice p2 m2 d2) ∧ W.cell? ⟨pb, 7, none⟩ = some (.int .i64 hd.fr) ∧ W.cell? ⟨pb, 8, none⟩ = some (.int .i64 hd.en)))
              (first
                | ((have hzz := s0); (clear hzz); (with_reducible refine HCB.out _ ?_); (with_reducible exact nine_at hf3))
                | ((with_reducible refine HCB.out _ ?_); (with_reducible exact wide_fr hf3))
                | ((with_reducible refine HCB.out _ ?_); (with_reducible refine wide_q ?_); (repeat (first | with_reducible exact hqc | with_reducible exact Quiet0.refl _ | with_reducible refine Quiet0.trans ?_ (Quiet0.alloc _ _) | with_reducible refine Quiet0.trans ?_ (Quiet0.drew _) | fail)); done)
                | fail)
              (first
                | (go_at_call 52; (with_reducible refine Calls.mono (HC6.out _ ?hq) ?_); (case hq => (repeat (first | with_reducible exact hqc | with_reducible exact Quiet0.refl _ | with_reducible refine Quiet0.trans ?_ (Quiet0.alloc _ _) | with_reducible refine Quiet0.trans ?_ (Quiet0.drew _) | fail))); rintro z w2 ⟨rfl, ht2, hn2, hf2⟩; have hf3 : Fr (fun k => E i k ∨ k = nb) W1 w2 := Fr.trans (Quiet0.fr (by (repeat (first | with_reducible exact hqc | with_reducible exact Quiet0.refl _ | with_reducible refine Quiet0.trans ?_ (Quiet0.alloc _ _) | with_reducible refine Quiet0.trans ?_ (Quiet0.drew _) | fail)))) hf2; clear hf2; obtain ⟨⟨s0, s1, s2, s3, s4, s5, s6, s7, s8⟩, stb⟩ := HCS.out _ hf3; have r0 := termB_frozen stb (i * 9); have r1 := termB_frozen stb (i * 9 + 1); have r2 := termB_frozen stb (i * 9 + 2); have r3 := termB_frozen stb (i * 9 + 3); have r4 := termB_frozen stb (i * 9 + 4); have r5 := termB_frozen stb (i * 9 + 5); have r6 := termB_frozen stb (i * 9 + 6); have r7 := termB_frozen stb (i * 9 + 7); have r8 := termB_frozen stb (i * 9 + 8))
                | fail)
            all_goals
              go_wp2_with fail
              go_roundw
              case rel =>
                first
                  | with_reducible exact rn_rnd HA.out rfl HPL.out HPE.out HAL.out HDR.out hlt HAA.out HTB.out HE.out hDb HDJ.out (HQ1.out.fr.trans hf3) HC9.out HSL.out HGQ.out ht2 hn2 HLQ.out.1 HLQ.out.2 HF.out
                  | with_reducible exact (rn_rnd HA.out rfl HPL.out HPE.out HAL.out HDR.out hlt HAA.out HTB.out HE.out hDb HDJ.out (HQ1.out.fr.trans hf3) HC9.out HSL.out HGQ.out ht2 hn2 HLQ.out.1 HLQ.out.2 HF.out).drew
              case measure => simp [intOf] <;> omega
          case true =>
            obtain ⟨hex, hey⟩ := HEN.out.2 hb
            have HC5 := Lib.hid (fun (W : World) (n1 : Option Addr) (k1 : Nat) (n2 : Option Addr) (k2 : Nat) (h1 : NmIn (fun k => W1.heap.size ≤ k) W n1 (nn + 1) (h.nm :: x)) (h2 : nn + 1 ≤ k1) (h3 : NmIn (fun k => W1.heap.size ≤ k) W n2 (nn + 1) (nm2 :: y)) (h4 : nn + 1 ≤ k2) (hq : Quiet0 W1 W) => HC.out W (fun k => W1.heap.size ≤ k) (fun k => W1.heap.size ≤ k) (nn + 1) n1 k1 n2 k2 (by rw [hex]; exact h1) h2 (by rw [hey]; exact h3) h4 (Nat.le_refl _) HHI.out HHI.out hq)
            have HCL1 : Hid (∀ W, Calls Tryd.prog 55 #[.slice no nn nc] W fun e w' => e = .returned (.slice no nn nn) ∧ Quiet0 W w') := fun W => (clip_any no nn nc W hnc (fun hx => by have := HNN.out; rw [hx] at this; exact this.none)).mono (fun e w' h => ⟨h.1, by rw [h.2]; exact Quiet0.refl _⟩)
            have HCL2 : Hid (∀ W, Calls Tryd.prog 55 #[.slice no' nn nc'] W fun e w' => e = .returned (.slice no' nn nn) ∧ Quiet0 W w') := fun W => (clip_any no' nn nc' W hnc' (fun hx => by have := HNN'.out; rw [hx] at this; exact this.none)).mono (fun e w' h => ⟨h.1, by rw [h.2]; exact Quiet0.refl _⟩)
            clear hb hex hey
            go_upto_region 15 with fail
            have hqc := Quiet0.refl W1
            go_region_held3 (fun W => W.cell? ⟨B, 6, none⟩ = some (.slice (some ⟨b9, 0, none⟩) l2 c2) ∧ W.cell? ⟨B, 1, none⟩ = some (.string nm2) ∧ W.cell? ⟨fb, 0, none⟩ = some (.func (.func 52) #[] #[.pointer (some ⟨nb, 0, none⟩), .pointer (some ⟨fb, 0, none⟩)]) ∧ (W.cell? ⟨pb, 0, none⟩ = some (.int .i64 hd.k) ∧ W.cell? ⟨pb, 1, none⟩ = some (.string hd.nm) ∧ W.cell? ⟨pb, 2, none⟩ = some (.int .i64 hd.n) ∧ W.cell? ⟨pb, 3, none⟩ = some (.int .i64 hd.tk) ∧ W.cell? ⟨pb, 4, none⟩ = some (.int .i64 hd.tn) ∧ W.cell? ⟨pb, 5, none⟩ = some (.slice p1 m1 d1) ∧ W.cell? ⟨pb, 6, none⟩ = some (.slice p2 m2 d2) ∧ W.cell? ⟨pb, 7, none⟩ = some (.int .i64 hd.fr) ∧ W.cell? ⟨pb, 8, none⟩ = some (.int .i64 hd.en)))
              (first
                | ((have hzz := s0); (clear hzz); (with_reducible refine HCB.out _ ?_); (with_reducible exact nine_at hf3))
                | ((with_reducible refine HCB.out _ ?_); (with_reducible exact wide_fr hf3))
                | ((with_reducible refine HCB.out _ ?_); (with_reducible refine wide_q ?_); (repeat (first | with_reducible exact hqc | with_reducible exact Quiet0.refl _ | with_reducible refine Quiet0.trans ?_ (Quiet0.alloc _ _) | with_reducible refine Quiet0.trans ?_ (Quiet0.drew _) | fail)); done)
                | fail)
              (first
                | (go_at_call 55; (with_reducible refine Calls.mono (HCL1.out _) ?_); rintro e wx ⟨rfl, hc1q⟩; (refine with_q (w0 := W1) ?hq2 hc1q ?_); (case hq2 => (repeat (first | with_reducible exact hqc | with_reducible exact Quiet0.refl _ | with_reducible refine Quiet0.trans ?_ (Quiet0.alloc _ _) | with_reducible refine Quiet0.trans ?_ (Quiet0.drew _) | fail))); intro hqc)
                | (go_at_call 55; (with_reducible refine Calls.mono (HCL2.out _) ?_); rintro e wx ⟨rfl, hc2q⟩; (refine with_nm hN3 ?hq3 hc2q ?_; (case hq3 => (repeat (first | with_reducible exact Quiet0.refl _ | with_reducible refine Quiet0.trans ?_ (Quiet0.alloc _ _) | with_reducible refine Quiet0.trans ?_ (Quiet0.drew _) | fail))); intro hN3); (refine with_q (w0 := W1) ?hq2 hc2q ?_); (case hq2 => (repeat (first | with_reducible exact hqc | with_reducible exact Quiet0.refl _ | with_reducible refine Quiet0.trans ?_ (Quiet0.alloc _ _) | with_reducible refine Quiet0.trans ?_ (Quiet0.drew _) | fail))); intro hqc)
                | ((refine step_name _ rfl (.tmp 70) (.tmp 72) rfl (NmIn.stay HNN.out ?hq3) h.nm _ rfl rfl ?hH (by omega) (Wb := W1) ?hqb ?_); (case hqb => (repeat (first | with_reducible exact hqc | with_reducible exact Quiet0.refl _ | with_reducible refine Quiet0.trans ?_ (Quiet0.alloc _ _) | with_reducible refine Quiet0.trans ?_ (Quiet0.drew _) | fail))); (case hq3 => (repeat (first | with_reducible exact hqc | with_reducible exact Quiet0.refl _ | with_reducible refine Quiet0.trans ?_ (Quiet0.alloc _ _) | with_reducible refine Quiet0.trans ?_ (Quiet0.drew _) | fail))); (case hH => (repeat (first | ((with_reducible refine blk_new _ _ _ _ ?hbe); (case hbe => (simp; done))) | with_reducible refine blk_after (Quiet0.alloc _ _) ?_ | with_reducible refine blk_drew ?_ | with_reducible refine blk_after hc1q ?_ | with_reducible refine blk_after ha1q ?_ | with_reducible refine blk_after hc2q ?_ | fail))); intro g3 c3 w3 hN3 hc3 ha1q; (refine with_q (w0 := W1) ?hq2 ha1q ?_); (case hq2 => (repeat (first | with_reducible exact hqc | with_reducible exact Quiet0.refl _ | with_reducible refine Quiet0.trans ?_ (Quiet0.alloc _ _) | with_reducible refine Quiet0.trans ?_ (Quiet0.drew _) | fail))); intro hqc)
                | ((refine step_name _ rfl (.tmp 75) (.tmp 78) rfl (NmIn.stay HNN'.out ?hq3) nm2 _ rfl rfl ?hH (by omega) (Wb := W1) ?hqb ?_); (case hqb => (repeat (first | with_reducible exact hqc | with_reducible exact Quiet0.refl _ | with_reducible refine Quiet0.trans ?_ (Quiet0.alloc _ _) | with_reducible refine Quiet0.trans ?_ (Quiet0.drew _) | fail))); (case hq3 => (repeat (first | with_reducible exact hqc | with_reducible exact Quiet0.refl _ | with_reducible refine Quiet0.trans ?_ (Quiet0.alloc _ _) | with_reducible refine Quiet0.trans ?_ (Quiet0.drew _) | fail))); (case hH => (repeat (first | ((with_reducible refine blk_new _ _ _ _ ?hbe); (case hbe => (simp; done))) | with_reducible refine blk_after (Quiet0.alloc _ _) ?_ | with_reducible refine blk_drew ?_ | with_reducible refine blk_after hc1q ?_ | with_reducible refine blk_after ha1q ?_ | with_reducible refine blk_after hc2q ?_ | fail))); intro g4 c4 w4 hN4 hc4 ha2q; (refine with_nm hN3 ?hq4 ha2q ?_; (case hq4 => (repeat (first | with_reducible exact Quiet0.refl _ | with_reducible refine Quiet0.trans ?_ (Quiet0.alloc _ _) | with_reducible refine Quiet0.trans ?_ (Quiet0.drew _) | fail))); intro hN3); (refine with_q (w0 := W1) ?hq2 ha2q ?_); (case hq2 => (repeat (first | with_reducible exact hqc | with_reducible exact Quiet0.refl _ | with_reducible refine Quiet0.trans ?_ (Quiet0.alloc _ _) | with_reducible refine Quiet0.trans ?_ (Quiet0.drew _) | fail))); intro hqc)
                | (go_at_call 52; (with_reducible refine Calls.mono (HC5.out _ _ _ _ _ (hN3.stay ?hq3) hc3 (hN4.stay ?hq4) hc4 ?hq) ?_); (case hq3 => (repeat (first | with_reducible exact Quiet0.refl _ | with_reducible refine Quiet0.trans ?_ (Quiet0.alloc _ _) | with_reducible refine Quiet0.trans ?_ (Quiet0.drew _) | fail))); (case hq4 => (repeat (first | with_reducible exact Quiet0.refl _ | with_reducible refine Quiet0.trans ?_ (Quiet0.alloc _ _) | with_reducible refine Quiet0.trans ?_ (Quiet0.drew _) | fail))); (case hq => (repeat (first | with_reducible exact hqc | with_reducible exact Quiet0.refl _ | with_reducible refine Quiet0.trans ?_ (Quiet0.alloc _ _) | with_reducible refine Quiet0.trans ?_ (Quiet0.drew _) | fail))); rintro z w2 ⟨rfl, ht2, hn2, hf2⟩; have hf3 : Fr (fun k => E i k ∨ k = nb) W1 w2 := Fr.trans (Quiet0.fr (by (repeat (first | with_reducible exact hqc | with_reducible exact Quiet0.refl _ | with_reducible refine Quiet0.trans ?_ (Quiet0.alloc _ _) | with_reducible refine Quiet0.trans ?_ (Quiet0.drew _) | fail)))) hf2; clear hf2; obtain ⟨⟨s0, s1, s2, s3, s4, s5, s6, s7, s8⟩, stb⟩ := HCS.out _ hf3; have r0 := termB_frozen stb (i * 9); have r1 := termB_frozen stb (i * 9 + 1); have r2 := termB_frozen stb (i * 9 + 2); have r3 := termB_frozen stb (i * 9 + 3); have r4 := termB_frozen stb (i * 9 + 4); have r5 := termB_frozen stb (i * 9 + 5); have r6 := termB_frozen stb (i * 9 + 6); have r7 := termB_frozen stb (i * 9 + 7); have r8 := termB_frozen stb (i * 9 + 8))
                | fail)
            all_goals
              go_wp2_with fail
              go_roundw
              case rel =>
                first
                  | with_reducible exact rn_rnd HA.out rfl HPL.out HPE.out HAL.out HDR.out hlt HAA.out HTB.out HE.out hDb HDJ.out (HQ1.out.fr.trans hf3) HC9.out HSL.out HGQ.out ht2 hn2 HLQ.out.1 HLQ.out.2 HF.out
                  | with_reducible exact (rn_rnd HA.out rfl HPL.out HPE.out HAL.out HDR.out hlt HAA.out HTB.out HE.out hDb HDJ.out (HQ1.out.fr.trans hf3) HC9.out HSL.out HGQ.out ht2 hn2 HLQ.out.1 HLQ.out.2 HF.out).drew
              case measure => simp [intOf] <;> omega
        · have hlt' : ¬ (i : Int) < l2 := by omega
          have hil : i = l2 := by omega
          subst hil
          have hb1 : wr.heap[B + 1]? = some (.cells zero9 30 (0, 0)) := blk_fr HF.out (fun h => h.elim (fun h => (HBT.out _ h).2.1 rfl) (fun h => by have := HBE.out; omega)) (blk_fr HFX.out (fun h => by have := HBE.out; omega) HB1.out)
          have HK1 := Lib.hid hb1
          obtain ⟨⟨x0, x1, x2, x3, x4, x5, x6, x7, x8⟩, _⟩ := block9 HBW.out
          obtain ⟨⟨z0, z1, z2, z3, z4, z5, z6, z7, z8⟩, t0, t1, t2, t3, t4, t5, t6, t7, t8⟩ := block9 hb1
          clear hb1
          go_wp2_with fail
          have hff := put9_fr wr (B + 1) (.int .i64 h.k) (.string nm2) (.int .i64 h.n) (.int .i64 h.tk) (.int .i64 h.tn) (.slice o1 l1 c1) (.slice o2 i c2) (.int .i64 h.fr) (.int .i64 h.en)
          have hbf := put9_block (a0 := .int .i64 h.k) (a1 := .string nm2) (a2 := .int .i64 h.n) (a3 := .int .i64 h.tk) (a4 := .int .i64 h.tn) (a5 := .slice o1 l1 c1) (a6 := .slice o2 i c2) (a7 := .int .i64 h.fr) (a8 := .int .i64 h.en) HK1.out
          change bodyPost _ _ _ _ _ (put9 wr (B + 1) (.int .i64 h.k) (.string nm2) (.int .i64 h.n) (.int .i64 h.tk) (.int .i64 h.tn) (.slice o1 l1 c1) (.slice o2 i c2) (.int .i64 h.fr) (.int .i64 h.en))
          clear x0 x1 x2 x3 x4 x5 x6 x7 x8 z0 z1 z2 z3 z4 z5 z6 z7 z8 t0 t1 t2 t3 t4 t5 t6 t7 t8
          generalize put9 wr (B + 1) (.int .i64 h.k) (.string nm2) (.int .i64 h.n) (.int .i64 h.tk) (.int .i64 h.tn) (.slice o1 l1 c1) (.slice o2 i c2) (.int .i64 h.fr) (.int .i64 h.en) = wf at *
          obtain ⟨⟨x0, x1, x2, x3, x4, x5, x6, x7, x8⟩, _⟩ := block9 hbf
          have HFIN : Hid (RnQ R D L nb x y l h ps o1 l1 c1 o2 i c2 w (.returned (.agg #[.int .i64 h.k, .string nm2, .int .i64 h.n, .int .i64 h.tk, .int .i64 h.tn, .slice o1 l1 c1, .slice o2 i c2, .int .i64 h.fr, .int .i64 h.en])) wf) := by
            have hB := HBE.out
            have hdr := To.drop_end ps i (by have := HL.out; omega)
            have hpe : p = FP := by
              have := HPE.out
              rw [hdr] at this
              rw [← this]; show p = p.app .nil; rw [To.app_nil]
            have hle : lr = FL := by
              have := HAL.out
              rw [hdr] at this
              exact this
            have hTO : TO R wr D o2 i FP := by
              refine ⟨by rw [← hpe]; exact HPL.out.symm, hmx, fun h0 => ?_⟩
              obtain ⟨ho, hDb, _, hE, hdj, _⟩ := HBE9.out h0
              obtain ⟨htb, ha⟩ := HTI.out h0
              rw [hdr, To.app_nil, hpe] at ha
              exact ⟨b9, E, ho, hDb, htb, hE, hdj, ha⟩
            refine ⟨by rw [HC1.out]; rfl, ?_, ?_, ?_⟩
            · rw [HC1.out]
              exact hTO.fr hff (fun k _ hk => ⟨hk, fun e => by have := (HA.out.r k hk).1; omega⟩) (fun k hk e => (HBT.out k hk).2.1 e)
            · rw [HC1.out, ← hle]
              exact HNW.out.fr hff (fun e => by omega) (fun k hk e => by have := (HA.out.l k hk).1; omega)
            · exact ((HFW.out.mono (T := fun k => D k ∨ k = nb) (fun k hk h => h.elim (fun e => by omega) .inr)).trans HF.out).trans' hff (fun k hk h => by omega)
          clear hff hbf
          refine bodyPost_ret (by simp [results, Tryd.results52, go_sem, x0, x1, x2, x3, x4, x5, x6, x7, x8]; rfl) rfl ?_
          exact HFIN.out
end Sc
end Go.Proofs.YtnfodiedalhlhaaDoor
end
