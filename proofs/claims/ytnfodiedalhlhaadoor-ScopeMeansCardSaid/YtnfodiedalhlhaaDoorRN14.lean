/-
  Texts laid together (ScStrip, ScTmRow, ScRCall0, ScDo): laws and walks, with their conditions in their statements.
-/
import Derived.Test.YtnfodiedalhlhaaDoorRN13
section
namespace Go.Proofs.YtnfodiedalhlhaaDoor
open Go.RowKit Go.Shelf
namespace Sc
def FBox (w : World) (fb : Nat) : Prop := w.heap[fb]? = some (.cells #[.func (.func 85) #[] #[.pointer (some ⟨fb, 0, none⟩)]] 64 (0, 0))
def StQ (R D : Nat → Prop) (h : Nd) (ps : To) (o1 : Option Addr) (l1 c1 : Nat) (o2 : Option Addr) (l2 c2 : Nat) (w : World) (x : Ending) (w' : World) : Prop :=
  x = .returned (tmv (stripH h) o1 l1 c1 o2 l2 c2) ∧ TO R w' D o2 l2 (stripF ps) ∧ Fr D w w'
def TStrip (h : Nd) (ps : To) : Prop := ∀ (w : World) (R D : Nat → Prop) (fb : Nat) (o1 : Option Addr) (l1 c1 : Nat) (o2 : Option Addr) (l2 c2 : Nat), SlcIn R w o1 l1 h.tp → TO R w D o2 l2 ps → FBox w fb → ¬ D fb → (∀ k, R k → ¬ D k) → (∀ k, D k → k < w.heap.size) → (∀ k, R k → k < w.heap.size) → ps.size ≤ 100000 →
  Calls Tryd.prog 85 #[tmv h o1 l1 c1 o2 l2 c2, .pointer (some ⟨fb, 0, none⟩)] w (StQ R D h ps o1 l1 c1 o2 l2 c2 w)
theorem get_some : ∀ (f : To) (i : Nat), i < f.length → ∃ h ps, f.get i = some (h, ps)
  | .nil, i, h => by simp [To.length] at h
  | .cons h ps r, 0, _ => ⟨h, ps, rfl⟩
  | .cons h ps r, i + 1, hi => get_some r i (by simp [To.length] at hi; omega)
theorem drop_get : ∀ (f : To) (i : Nat) (h : Nd) (ps : To), f.get i = some (h, ps) → f.drop i = .cons h ps (f.drop (i + 1))
  | .nil, i, h, ps, e => by simp [To.get] at e
  | .cons h' ps' r, 0, h, ps, e => by
    simp [To.get] at e
    obtain ⟨rfl, rfl⟩ := e
    simp [To.drop, To.drop_zero]
  | .cons h' ps' r, i + 1, h, ps, e => by simp only [To.drop]; exact drop_get r i h ps e
def StR (R D : Nat → Prop) (E : Nat → Nat → Prop) (b9 : Nat) (ps : To) (l2 : Nat) (wx : World) (t : Value) (wr : World) : Prop :=
  ∃ (i : Nat) (p : To), t = .int .i64 i ∧ i ≤ l2 ∧ p.length = i ∧ p.app (stripF (ps.drop i)) = stripF ps ∧ (0 < l2 → TermB wr b9 ∧ TOI R wr E b9 0 (p.app (ps.drop i))) ∧ Fr D wx wr
theorem StR.drew {R D : Nat → Prop} {E : Nat → Nat → Prop} {b9 : Nat} {ps : To} {l2 : Nat} {wx : World} {t : Value} {wr : World} (h : StR R D E b9 ps l2 wx t wr) : StR R D E b9 ps l2 wx t wr.drew := by
  obtain ⟨i, p, h1, h2, h3, h4, h5, h6⟩ := h
  refine ⟨i, p, h1, h2, h3, h4, fun h0 => ?_, h6.trans (Fr.drew D wr)⟩
  obtain ⟨g1, g2⟩ := h5 h0
  exact ⟨g1.fr (Fr.drew (fun _ => False) wr) (fun h => h), TOI.keep (Fr.drew (fun _ => False) wr) (fun _ _ hk => ⟨hk, fun h => h⟩) _ _ _ _ g2 (fun _ _ _ => rfl) (fun _ _ _ h => h)⟩
theorem strip_next {R : Nat → Prop} {wr w2 : World} {E : Nat → Nat → Prop} {b9 : Nat} {p r : To} {hd : Nd} {qs : To} {p1 : Option Addr} {m1 d1 : Nat} {p2 : Option Addr} {m2 d2 : Nat}
    (ht : TOI R wr E b9 0 (p.app (.cons hd qs r))) (htb : TermB wr b9) (hE : ∀ j k, E j k → k ≠ b9) (hdj : ∀ i j k, E i k → E j k → i = j) (hRE : ∀ k, R k → ¬ (k = b9 ∨ E p.length k)) (hf : Fr (E p.length) wr w2)
    (hc : Cells9 wr b9 (p.length * 9) hd p1 m1 d1 p2 m2 d2) (hs : SlcIn R wr p1 m1 hd.tp) (hto : TO R w2 (E p.length) p2 m2 (stripF qs)) :
    TOI R (put9at w2 b9 (p.length * 9) (.int .i64 (stripH hd).k) (.string (stripH hd).nm) (.int .i64 (stripH hd).n) (.int .i64 (stripH hd).tk) (.int .i64 (stripH hd).tn) (.slice p1 m1 d1) (.slice p2 m2 d2) (.int .i64 (stripH hd).fr) (.int .i64 (stripH hd).en)) E b9 0 (p.app (.cons (stripH hd) (stripF qs) r)) := by
  have hb : ¬ E p.length b9 := fun h => hE _ _ h rfl
  have hlt : b9 < wr.heap.size := by obtain ⟨cur, h⟩ := htb; exact lt_of_block h
  have hf9 := put9at_fr w2 b9 (p.length * 9) (.int .i64 (stripH hd).k) (.string (stripH hd).nm) (.int .i64 (stripH hd).n) (.int .i64 (stripH hd).tk) (.int .i64 (stripH hd).tn) (.slice p1 m1 d1) (.slice p2 m2 d2) (.int .i64 (stripH hd).fr) (.int .i64 (stripH hd).en)
  have hff : Fr (fun k => k = b9 ∨ E p.length k) wr (put9at w2 b9 (p.length * 9) (.int .i64 (stripH hd).k) (.string (stripH hd).nm) (.int .i64 (stripH hd).n) (.int .i64 (stripH hd).tk) (.int .i64 (stripH hd).tn) (.slice p1 m1 d1) (.slice p2 m2 d2) (.int .i64 (stripH hd).fr) (.int .i64 (stripH hd).en)) := (hf.mono (fun _ _ h => .inr h)).trans (hf9.mono (fun _ _ h => .inl h))
  refine TOI.put hff (fun k _ hk => hRE k hk) p E b9 0 hd (stripH hd) qs (stripF qs) r ht ?_ ?_ ?_
  · intro c _ hcc
    rw [put9at_other _ _ _ _ _ _ _ _ _ _ _ _ c (by omega)]
    exact hf.cellb hlt hb
  · rintro j k hk hj (h | h)
    · exact hE _ _ hk h
    · exact hj (hdj _ _ _ hk h)
  · rw [Nat.zero_add]
    exact ⟨p1, m1, d1, p2, m2, d2, put9at_cells (hc.fr hf hb), hs.fr hff (fun k _ hk => ⟨hk, hRE k hk⟩), hto.fr hf9 (fun k _ hk => ⟨hk, fun e => hRE k hk (.inl e)⟩) (fun k hk e => hE _ _ hk e)⟩
theorem app_snoc : ∀ (p : To) (h : Nd) (qs r : To), (p.app (.cons h qs .nil)).app r = p.app (.cons h qs r)
  | .nil, _, _, _ => rfl
  | .cons h' ps' r', h, qs, r => by simp only [To.app]; rw [app_snoc r' h qs r]
theorem snoc_len : ∀ (p : To) (h : Nd) (qs : To), (p.app (.cons h qs .nil)).length = p.length + 1
  | .nil, _, _ => rfl
  | .cons h' ps' r', h, qs => by simp only [To.app, To.length]; rw [snoc_len r' h qs]
theorem strip_rnd {R D : Nat → Prop} {E : Nat → Nat → Prop} {b9 : Nat} {ps p : To} {l2 i : Nat} {wx wr w2 : World} {hd : Nd} {qs : To} {p1 : Option Addr} {m1 d1 : Nat} {p2 : Option Addr} {m2 d2 : Nat} {t : Value} (ht : t = .int .i64 ((i : Int) + 1)) (hp : p.length = i)
    (hpe : p.app (stripF (ps.drop i)) = stripF ps) (hdr : ps.drop i = .cons hd qs (ps.drop (i + 1))) (hlt : i < l2) (ha : TOI R wr E b9 0 (p.app (.cons hd qs (ps.drop (i + 1))))) (htb : TermB wr b9) (hE : ∀ j k, E j k → D k ∧ k ≠ b9) (hdb : D b9)
    (hRD : ∀ k, R k → ¬ D k) (hdj : ∀ i j k, E i k → E j k → i = j) (hf3 : Fr (E i) wr w2) (hc : Cells9 wr b9 (i * 9) hd p1 m1 d1 p2 m2 d2) (hs : SlcIn R wr p1 m1 hd.tp) (hto : TO R w2 (E i) p2 m2 (stripF qs)) (hf : Fr D wx wr) :
    StR R D E b9 ps l2 wx t (put9at w2 b9 (i * 9) (.int .i64 (stripH hd).k) (.string (stripH hd).nm) (.int .i64 (stripH hd).n) (.int .i64 (stripH hd).tk) (.int .i64 (stripH hd).tn) (.slice p1 m1 d1) (.slice p2 m2 d2) (.int .i64 (stripH hd).fr) (.int .i64 (stripH hd).en)) := by
  subst hp
  refine ⟨p.length + 1, p.app (.cons (stripH hd) (stripF qs) .nil), by rw [ht]; congr 1, hlt, snoc_len _ _ _, ?_, fun _ => ⟨?_, ?_⟩, ?_⟩
  · rw [app_snoc, ← hpe, hdr]; rfl
  · exact put9at_termB (htb.fr hf3 (fun h => (hE _ _ h).2 rfl)) _ _ _ _ _ _ _ _ _
  · rw [app_snoc]
    exact strip_next ha htb (fun j k h => (hE j k h).2) hdj (fun k hk h => h.elim (fun e => hRD k hk (e ▸ hdb)) (fun h => hRD k hk (hE _ _ h).1)) hf3 hc hs hto
  · exact (hf.trans (hf3.mono (fun k _ h => (hE _ _ h).1))).trans ((put9at_fr w2 b9 (p.length * 9) _ _ _ _ _ _ _ _ _).mono (fun k _ h => by rw [h]; exact hdb))
set_option maxRecDepth 100000 in
set_option maxHeartbeats 8000000 in
theorem strip_any (h : Nd) (ps : To) : TStrip h ps := by
  refine To.ind' (T := TStrip) ?_ h ps
  intro h ps ih w R D fb o1 l1 c1 o2 l2 c2 hs1 hs hfb hDf hRD hDl hRl hsz
  have HS1 := Lib.hid hs1
  have IH := Lib.hid ih
  have HL := Lib.hid hs.1
  have hmx := hs.2.1
  have hll := To.length_le ps
  rw [← hs.1] at hll
  obtain ⟨b9, E, hbe⟩ : ∃ (b9 : Nat) (E : Nat → Nat → Prop), 0 < l2 → (o2 = some ⟨b9, 0, none⟩ ∧ D b9 ∧ TermB w b9 ∧ (∀ j k, E j k → D k ∧ k ≠ b9) ∧ (∀ i j k, E i k → E j k → i = j) ∧ TOI R w E b9 0 ps) := by
    by_cases h0 : 0 < l2
    · obtain ⟨b, E, h1⟩ := hs.2.2 h0
      exact ⟨b, E, fun _ => h1⟩
    · exact ⟨0, fun _ _ => False, fun h => absurd h h0⟩
  have HBE := Lib.hid hbe
  have HFB := Lib.hid hfb
  have HDF := Lib.hid hDf
  have HRD := Lib.hid hRD
  have HDL := Lib.hid hDl
  have HRL := Lib.hid hRl
  have hfl := lt_of_block hfb
  obtain ⟨W0, hW0⟩ : ∃ W0, W0 = (w.alloc (.cells (cells9 h o1 l1 c1 o2 l2 c2) 30)).alloc (.cells zero9 30) := ⟨_, rfl⟩
  have HQ0 : Hid (Quiet0 w W0) := by rw [hW0]; exact (Quiet0.alloc _ _).trans (Quiet0.alloc _ _)
  have HB0 : Hid (W0.heap[w.heap.size]? = some (.cells (cells9 h o1 l1 c1 o2 l2 c2) 30 (0, 0))) := by
    show _ = _; rw [hW0, Below.heap_alloc _ _ _ (by simp)]; exact heap_alloc_new w _
  have HB1 : Hid (W0.heap[w.heap.size + 1]? = some (.cells zero9 30 (0, 0))) := by
    show _ = _; rw [hW0]
    have := heap_alloc_new (w.alloc (.cells (cells9 h o1 l1 c1 o2 l2 c2) 30)) (.cells zero9 30)
    simpa using this
  have HZ : Hid (W0.heap.size = w.heap.size + 2) := by show _ = _; rw [hW0]; simp
  clear hs1 hs ih hbe hfb hDf hRD hDl hRl
  unfold tmv
  go_enter Tryd.func85, Tryd.ntmps85
  go_upto_region 1 with fail
  rw [← hW0]
  clear hW0
  generalize hB : w.heap.size = B at *
  have HB := Lib.hid hB
  clear hB
  obtain ⟨⟨x0, x1, x2, x3, x4, x5, x6, x7, x8⟩, y0, y1, y2, y3, y4, y5, y6, y7, y8⟩ := block9 HB0.out
  go_upto_region 2 with fail
  have hf1 : Fr (fun k => k = B) W0 ((W0.setCell ⟨B, 7, none⟩ (.int .i64 0)).setCell ⟨B, 8, none⟩ (.int .i64 0)) := (Fr.setCell (fun k => k = B) W0 ⟨B, 7, none⟩ (.int .i64 0) rfl).trans (Fr.setCell (fun k => k = B) _ ⟨B, 8, none⟩ (.int .i64 0) rfl)
  have hb1 : ((W0.setCell ⟨B, 7, none⟩ (.int .i64 0)).setCell ⟨B, 8, none⟩ (.int .i64 0)).heap[B]? = some (.cells (cells9 { h with fr := 0, en := 0 } o1 l1 c1 o2 l2 c2) 30 (0, 0)) := set_block (i := 8) (u := .int .i64 0) (set_block (i := 7) (u := .int .i64 0) HB0.out)
  have HF1 := Lib.hid hf1
  have HBA := Lib.hid hb1
  clear hf1 hb1 x0 x1 x2 x3 x4 x5 x6 x7 x8 y0 y1 y2 y3 y4 y5 y6 y7 y8
  change Code.wp _ _ _ _ ((W0.setCell ⟨B, 7, none⟩ (.int .i64 0)).setCell ⟨B, 8, none⟩ (.int .i64 0))
  generalize (W0.setCell ⟨B, 7, none⟩ (.int .i64 0)).setCell ⟨B, 8, none⟩ (.int .i64 0) = W1 at *
  obtain ⟨⟨x0, x1, x2, x3, x4, x5, x6, x7, x8⟩, y0, y1, y2, y3, y4, y5, y6, y7, y8⟩ := block9 HBA.out
  have hbn := binds_any h.k 1 W1
  have HBN : Hid (Calls Tryd.prog 47 #[.int .i64 h.k, .int .i64 1] W1 fun e w' => e = .returned (.bool (bindK h.k)) ∧ W1 = w') := by
    have hk : bindsB h.k 1 = bindK h.k := by unfold bindsB bindK; cases h4 : (h.k == 4) <;> cases h6 : (h.k == 6) <;> cases h7 : (h.k == 7) <;> rfl
    rw [hk] at hbn; exact hbn
  clear hbn
  go_wp2_with fail
  refine HBN.out.mono ?_; rintro x w2 ⟨rfl, rfl⟩
  go_upto_if 9 with fail
  go_cut [9] (fun _ wx => wx.heap[B]? = some (.cells (cells9 (stripH h) o1 l1 c1 o2 l2 c2) 30 (0, 0)) ∧ Fr (fun k => k = B) W0 wx)
  case first =>
    cases hb : bindK h.k
    · have HE : Hid (stripH h = { h with fr := 0, en := 0 }) := by show _ = _; unfold stripH; rw [hb]; rfl
      clear hb
      go_wp2_with fail
      go_meet
      rw [HE.out]
      exact ⟨HBA.out, HF1.out⟩
    · have HE : Hid (stripH h = { h with fr := 0, en := 0, nm := ByteArray.empty }) := by show _ = _; unfold stripH; rw [hb]; rfl
      clear hb
      go_wp2_with fail
      go_meet
      rw [HE.out]
      exact ⟨set_block (i := 1) (u := .string ⟨#[]⟩) HBA.out, HF1.out.trans (Fr.setCell _ _ _ _ rfl)⟩
  case rest =>
    rename World => wx
    obtain ⟨hbx, hfx⟩ := hcut
    clear x0 x1 x2 x3 x4 x5 x6 x7 x8 y0 y1 y2 y3 y4 y5 y6 y7 y8
    have HBX := Lib.hid hbx
    have HFX := Lib.hid hfx
    have hHx : (stripH h).k = h.k ∧ (stripH h).n = h.n ∧ (stripH h).tk = h.tk ∧ (stripH h).tn = h.tn ∧ (stripH h).fr = 0 ∧ (stripH h).en = 0 := ⟨rfl, rfl, rfl, rfl, rfl, rfl⟩
    obtain ⟨⟨x0, x1, x2, x3, x4, x5, x6, x7, x8⟩, _⟩ := block9 hbx
    clear hbx hfx hHx
    generalize hgh : stripH h = gh at *
    have HGH := Lib.hid hgh
    clear hgh
    go_wp2_with fail
    clear x0 x1 x2 x3 x4 x5 x6 x7 x8
    have HBT : Hid (∀ k, D k → k ≠ B ∧ k ≠ B + 1) := fun k hk => by have := HDL.out k hk; omega
    have hfw : Fr (fun k => k = B) w wx := HQ0.out.fr.trans HFX.out
    have HFW := Lib.hid hfw
    clear hfw
    go_loopw [4, 14] (fun _ t wr => StR R D E b9 ps l2 wx t wr) (fun _ t _ => l2 - (intOf t).toNat)
    case atStart =>
      refine ⟨0, .nil, rfl, Nat.zero_le _, rfl, by rw [To.drop_zero]; rfl, fun h0 => ?_, Fr.refl _ _⟩
      obtain ⟨_, hDb, htb, hE, _, ha⟩ := HBE.out h0
      rw [To.drop_zero]
      refine ⟨htb.fr HFW.out (HBT.out _ hDb).1, TOI.keep HFW.out (fun k hk hr => ⟨hr, fun e => by have := HRL.out k hr; omega⟩) ps E b9 0 ha (fun c _ _ => ?_) (fun j k hk => (HBT.out _ (hE j k hk).1).1)⟩
      obtain ⟨cur, hcur⟩ := htb
      exact HFW.out.cellb (lt_of_block hcur) (HBT.out _ hDb).1
    case round =>
      obtain ⟨i, p, rfl, hi, hpl, hpe, hti, hf⟩ := hrel
      have HPL := Lib.hid hpl
      have HPE := Lib.hid hpe
      have HTI := Lib.hid hti
      have HF := Lib.hid hf
      have hbw : wr.heap[B]? = some (.cells (cells9 gh o1 l1 c1 o2 l2 c2) 30 (0, 0)) := blk_fr hf (fun h => (HBT.out _ h).1 rfl) HBX.out
      have HBW := Lib.hid hbw
      clear hpl hpe hti hf hbw
      by_cases hlt : i < l2
      · have hlt' : (i : Int) < l2 := by omega
        have h0 : 0 < l2 := by omega
        obtain ⟨hob, hDb, _, hE, hdj, _⟩ := HBE.out h0
        subst hob
        obtain ⟨htb, ha⟩ := HTI.out h0
        obtain ⟨hd, qs, hg⟩ : ∃ hd qs, ps.get i = some (hd, qs) := by
          have hlt2 : i < ps.length := by have := HL.out; omega
          exact get_some ps i hlt2
        have hdr := drop_get ps i hd qs hg
        have HDR := Lib.hid hdr
        have HLT := Lib.hid hlt
        have hsq := To.size_get ps i hd qs hg
        rw [hdr] at ha
        have hpl := HPL.out
        subst hpl
        obtain ⟨p1, m1, d1, p2, m2, d2, hc9, hsl, hto⟩ := TOI.nth p E b9 0 hd qs _ ha
        rw [Nat.zero_add] at hc9
        have HA := Lib.hid ha
        have HTB := Lib.hid htb
        have HE := Lib.hid hE
        have HDJ := Lib.hid hdj
        have HC9 := Lib.hid hc9
        have HSL := Lib.hid hsl
        have hfwr : Fr (fun k => D k ∨ k = B) w wr := (HFW.out.mono (fun _ _ h => .inr h)).trans (HF.out.mono (fun _ _ h => .inl h))
        have hfb : FBox wr fb := blk_fr hfwr (fun h => by
          rcases h with h | h
          · exact HDF.out h
          · omega) HFB.out
        have hwz := hfwr.size
        have hB := HB.out
        have hRE : ∀ k, R k → ¬ E p.length k := fun k hk h => HRD.out k hk (hE _ _ h).1
        have HC : Hid (∀ W, Quiet0 wr W → Calls Tryd.prog 85 #[tmv hd p1 m1 d1 p2 m2 d2, .pointer (some ⟨fb, 0, none⟩)] W (StQ R (E p.length) hd qs p1 m1 d1 p2 m2 d2 W)) := fun W hq => IH.out p.length hd qs hg W R (E p.length) fb p1 m1 d1 p2 m2 d2 (hsl.stay hq) (hto.stay hq) (blk_after hq hfb) (fun h => HDF.out (hE _ _ h).1) hRE (fun k hk => by have := HDL.out k (hE _ _ hk).1; have := hq.size; omega) (fun k hk => by have := HRL.out k hk; have := hq.size; omega) (by omega)
        have HCB : Hid (∀ W, Fr (E p.length) wr W → W.cell? ⟨B, 6, none⟩ = some (.slice (some ⟨b9, 0, none⟩) l2 c2) ∧ W.cell? ⟨fb, 0, none⟩ = some (.func (.func 85) #[] #[.pointer (some ⟨fb, 0, none⟩)]) ∧ Cells9 W b9 (p.length * 9) hd p1 m1 d1 p2 m2 d2 ∧ TermB W b9) := fun W hf => ⟨((cells9_block HBW.out).fr hf (fun h => (HBT.out _ (hE _ _ h).1).1 rfl)).2.2.2.2.2.2.1, cell_of_one (blk_fr hf (fun h => HDF.out (hE _ _ h).1) hfb), hc9.fr hf (fun h => (hE _ _ h).2 rfl), htb.fr hf (fun h => (hE _ _ h).2 rfl)⟩
        obtain ⟨g6, gf, ⟨u0, u1, u2, u3, u4, u5, u6, u7, u8⟩, _⟩ := HCB.out wr (Fr.refl _ _)
        have hpi : p.length ≤ 100000 := by omega
        have hpm : ((p.length : Nat) : Int) < l2 := by omega
        have hp0 : (0 : Int) ≤ ((p.length : Nat) : Int) := by omega
        unfold tmv at HC
        clear hg hdr hsq ha htb hE hdj hc9 hsl hto hfb hRE
        generalize hpg : p.length = i at *
        have HPG := Lib.hid hpg
        clear hpg
        go_upto_region 7 with fail
        have hqc := Quiet0.refl wr
        go_region_law (first
          | (go_simp; go_at_call 85; (with_reducible refine Calls.mono (HC.out _ ?hq) ?_); (case hq => (repeat (first | with_reducible exact hqc | with_reducible exact Quiet0.refl _ | with_reducible refine Quiet0.trans ?_ (Quiet0.alloc _ _) | with_reducible refine Quiet0.trans ?_ (Quiet0.drew _) | fail))); rintro x1w w2 ⟨rfl, ht2, hf2⟩; unfold tmv; have HT2 := Lib.hid ht2; have hf3 : Fr (E i) wr w2 := Fr.trans (Quiet0.fr (by (repeat (first | with_reducible exact hqc | with_reducible exact Quiet0.refl _ | with_reducible refine Quiet0.trans ?_ (Quiet0.alloc _ _) | with_reducible refine Quiet0.trans ?_ (Quiet0.drew _) | fail)))) hf2; have HF3 := Lib.hid hf3; obtain ⟨v6, vf, ⟨s0, s1, s2, s3, s4, s5, s6, s7, s8⟩, stb⟩ := HCB.out _ hf3; have r0 := termB_frozen stb (i * 9); have r1 := termB_frozen stb (i * 9 + 1); have r2 := termB_frozen stb (i * 9 + 2); have r3 := termB_frozen stb (i * 9 + 3); have r4 := termB_frozen stb (i * 9 + 4); have r5 := termB_frozen stb (i * 9 + 5); have r6 := termB_frozen stb (i * 9 + 6); have r7 := termB_frozen stb (i * 9 + 7); have r8 := termB_frozen stb (i * 9 + 8); clear ht2 hf2 hf3 stb)
          | fail)
        all_goals
          go_wp2_with fail
          go_roundw
          case rel =>
            first
              | with_reducible exact strip_rnd rfl HPG.out HPE.out HDR.out HLT.out HA.out HTB.out HE.out hDb HRD.out HDJ.out HF3.out HC9.out HSL.out HT2.out HF.out
              | with_reducible exact (strip_rnd rfl HPG.out HPE.out HDR.out HLT.out HA.out HTB.out HE.out hDb HRD.out HDJ.out HF3.out HC9.out HSL.out HT2.out HF.out).drew
              | with_reducible exact (strip_rnd rfl HPG.out HPE.out HDR.out HLT.out HA.out HTB.out HE.out hDb HRD.out HDJ.out HF3.out HC9.out HSL.out HT2.out HF.out).drew.drew
              | with_reducible exact strip_rnd rfl HPG.out HPE.out HDR.out HLT.out HA.out HTB.out HE.out hDb HRD.out HDJ.out HF3.out HC9.out HSL.out HT2.out HF.out
          case measure => simp [intOf] <;> omega
      · have hlt' : ¬ (i : Int) < l2 := by omega
        have hil : i = l2 := by omega
        subst hil
        have hb1 : wr.heap[B + 1]? = some (.cells zero9 30 (0, 0)) := blk_fr HF.out (fun h => (HBT.out _ h).2 rfl) (blk_fr HFX.out (by omega) HB1.out)
        have HK1 := Lib.hid hb1
        obtain ⟨⟨x0, x1, x2, x3, x4, x5, x6, x7, x8⟩, _⟩ := block9 HBW.out
        obtain ⟨⟨z0, z1, z2, z3, z4, z5, z6, z7, z8⟩, t0, t1, t2, t3, t4, t5, t6, t7, t8⟩ := block9 hb1
        clear hb1
        go_wp2_with fail
        have hff := put9_fr wr (B + 1) (.int .i64 gh.k) (.string gh.nm) (.int .i64 gh.n) (.int .i64 gh.tk) (.int .i64 gh.tn) (.slice o1 l1 c1) (.slice o2 i c2) (.int .i64 gh.fr) (.int .i64 gh.en)
        have hbf := put9_block (a0 := .int .i64 gh.k) (a1 := .string gh.nm) (a2 := .int .i64 gh.n) (a3 := .int .i64 gh.tk) (a4 := .int .i64 gh.tn) (a5 := .slice o1 l1 c1) (a6 := .slice o2 i c2) (a7 := .int .i64 gh.fr) (a8 := .int .i64 gh.en) HK1.out
        change bodyPost _ _ _ _ _ (put9 wr (B + 1) (.int .i64 gh.k) (.string gh.nm) (.int .i64 gh.n) (.int .i64 gh.tk) (.int .i64 gh.tn) (.slice o1 l1 c1) (.slice o2 i c2) (.int .i64 gh.fr) (.int .i64 gh.en))
        clear x0 x1 x2 x3 x4 x5 x6 x7 x8 z0 z1 z2 z3 z4 z5 z6 z7 z8 t0 t1 t2 t3 t4 t5 t6 t7 t8
        generalize put9 wr (B + 1) (.int .i64 gh.k) (.string gh.nm) (.int .i64 gh.n) (.int .i64 gh.tk) (.int .i64 gh.tn) (.slice o1 l1 c1) (.slice o2 i c2) (.int .i64 gh.fr) (.int .i64 gh.en) = wf at *
        obtain ⟨⟨x0, x1, x2, x3, x4, x5, x6, x7, x8⟩, _⟩ := block9 hbf
        have HFIN : Hid (StQ R D h ps o1 l1 c1 o2 i c2 w (.returned (.agg #[.int .i64 gh.k, .string gh.nm, .int .i64 gh.n, .int .i64 gh.tk, .int .i64 gh.tn, .slice o1 l1 c1, .slice o2 i c2, .int .i64 gh.fr, .int .i64 gh.en])) wf) := by
          have hB := HB.out
          have hpe : p = stripF ps := by
            have := HPE.out
            rw [To.drop_end ps i (by have := HL.out; omega)] at this
            rw [← this]; show p = p.app .nil; rw [To.app_nil]
          have hTO : TO R wr D o2 i (stripF ps) := by
            refine ⟨by rw [stripF_length]; exact HL.out, hmx, fun h0 => ?_⟩
            obtain ⟨ho, hDb, _, hE, hdj, _⟩ := HBE.out h0
            obtain ⟨htb, ha⟩ := HTI.out h0
            rw [To.drop_end ps i (by have := HL.out; omega), To.app_nil, hpe] at ha
            exact ⟨b9, E, ho, hDb, htb, hE, hdj, ha⟩
          refine ⟨by rw [HGH.out]; rfl, hTO.fr hff (fun k _ hk => ⟨hk, fun e => by have := HRL.out k hk; omega⟩) (fun k hk e => (HBT.out k hk).2 e), ?_⟩
          exact (((HQ0.out.fr).trans' HFX.out (fun k hk h => by omega)).trans HF.out).trans' hff (fun k hk h => by omega)
        clear hff hbf
        refine bodyPost_ret (by simp [results, Tryd.results85, go_sem, x0, x1, x2, x3, x4, x5, x6, x7, x8]; rfl) rfl ?_
        exact HFIN.out
end Sc
end Go.Proofs.YtnfodiedalhlhaaDoor
end
section
namespace Go.Proofs.YtnfodiedalhlhaaDoor
open Go.RowKit
namespace Sc
structure TmRowT (w : World) (T : Nat → Prop) (v : Value) (f : To) (xs : List Value) : Prop where
  own : w.ownsRow 0 30 9 v f.length xs
  low : ∀ k, v.ownBlock = some k → T k
  cells : RowT (fun k => T k ∧ v.ownBlock ≠ some k) w xs f
theorem TmRowT.nil (w : World) (T : Nat → Prop) : TmRowT w T (.slice none 0 0) .nil [] := ⟨World.ownsRow_nil _ _ _ _, fun k hk => (by cases hk), rfl⟩
theorem TmRowT.fr {w w' : World} {T : Nat → Prop} {v : Value} {f : To} {xs : List Value} {S : Nat → Prop} (h : TmRowT w T v f xs) (hf : Fr S w w') (hS : ∀ k, T k → ¬ S k) : TmRowT w' T v f xs :=
  ⟨ownsRow_fr h.own hf (fun k hk hs => hS k (h.low k hk) hs), h.low, RowT.fr hf (fun k _ hk => ⟨hk, hS k hk.1⟩) f xs h.cells⟩
theorem TmRowT.stay {w w' : World} {T : Nat → Prop} {v : Value} {f : To} {xs : List Value} (h : TmRowT w T v f xs) (hf : Quiet0 w w') : TmRowT w' T v f xs := h.fr hf (fun _ _ h => h)
theorem TmRowT.lt {w : World} {T : Nat → Prop} {v : Value} {f : To} {xs : List Value} (h : TmRowT w T v f xs) : ∀ k, v.ownBlock = some k → k < w.heap.size := fun k hk => (h.own.lt k hk).2
theorem TmRowT.snoc {W w1 : World} {T : Nat → Prop} {v : Value} {f : To} {xs : List Value} {h : Nd} {ps : To} {o1 : Option Addr} {l1 c1 : Nat} {o2 : Option Addr} {l2 c2 g c : Nat} (hr : TmRowT W T v f xs)
    (hs : SlcIn (fun k => T k ∧ v.ownBlock ≠ some k) W o1 l1 h.tp) (ht : TSlc (fun k => T k ∧ v.ownBlock ≠ some k) W o2 l2 ps)
    (ho : w1.ownsRow 0 30 9 (.slice (some ⟨g, 0, none⟩) (f.length + 1) c) (f.length + 1) (xs ++ (cells9 h o1 l1 c1 o2 l2 c2).toList)) (hf : Fr (fun k => v.ownBlock = some k) W w1) (hg : v.ownBlock = some g ∨ W.heap.size ≤ g) (hT : ∀ k, W.heap.size ≤ k → T k) :
    TmRowT w1 T (.slice (some ⟨g, 0, none⟩) (f.length + 1) c) (f.app (.cons h ps .nil)) (xs ++ (cells9 h o1 l1 c1 o2 l2 c2).toList) := by
  refine ⟨by rw [To.app_length]; exact ho, ?_, ?_⟩
  · intro k hk
    simp [Value.ownBlock] at hk
    subst hk
    rcases hg with h | h
    · exact hr.low g h
    · exact hT _ h
  · have hk : ∀ k, k < W.heap.size → (T k ∧ v.ownBlock ≠ some k) → ((T k ∧ (Value.slice (some ⟨g, 0, none⟩) (f.length + 1) c).ownBlock ≠ some k) ∧ ¬ v.ownBlock = some k) := by
      rintro k hk ⟨h1, h2⟩
      refine ⟨⟨h1, fun h => ?_⟩, h2⟩
      simp [Value.ownBlock] at h
      subst h
      rcases hg with h | h
      · exact h2 h
      · omega
    exact RowT.snoc (hs.fr hf hk) (ht.fr hf hk) f xs (RowT.fr hf hk f xs hr.cells)
theorem TmRowT.slc {w : World} {T : Nat → Prop} {o : Option Addr} {len cap : Nat} {f : To} {xs : List Value} (h : TmRowT w T (.slice o len cap) f xs) (hl : len = f.length) (hm : len ≤ maxLen) : TSlc T w o len f := by
  refine ⟨hl, hm, fun h0 => ?_⟩
  rcases h.own.2 with ⟨_, h2⟩ | ⟨g, cap', cur, he, _⟩
  · omega
  · injection he with h1 h2 h3
    subst h1
    refine ⟨g, 0, rfl, RowT.at (h.low g rfl) f xs 0 (RowT.fr (Fr.refl (fun _ => False) w) (fun k _ hk => ⟨hk.1, fun h => h⟩) f xs h.cells) ?_⟩
    intro j u hj
    have := h.own.cells (g := g) rfl j u hj
    simpa [Addr.add_lit] using this
end Sc
end Go.Proofs.YtnfodiedalhlhaaDoor
end
section
namespace Go.Proofs.YtnfodiedalhlhaaDoor
open Go.RowKit Go.Shelf
namespace Sc
def okN (s : ByteArray) : Bool := Lx.nameB s.data.toList
def StrT (T : Nat → Prop) (w : World) (o : Option Addr) (l : List ByteArray) : Prop := ∀ j s, l[j]? = some s → ∃ b off, o = some ⟨b, off, none⟩ ∧ T b ∧ w.cell? ⟨b, off + j, none⟩ = some (.string s)
theorem StrT.nil (T : Nat → Prop) (w : World) (o : Option Addr) : StrT T w o [] := fun j s h => by simp at h
theorem StrT.fr {T T' S : Nat → Prop} {w w' : World} {o : Option Addr} {l : List ByteArray} (h : StrT T w o l) (hf : Fr S w w') (hT : ∀ k, k < w.heap.size → T k → T' k ∧ ¬ S k) : StrT T' w' o l := by
  intro j s hs
  obtain ⟨b, off, h0, h1, h2⟩ := h j s hs
  have hb := World.block_lt_of_cell? w _ h2
  exact ⟨b, off, h0, (hT b hb h1).1, (hf.cellb hb (hT b hb h1).2).trans h2⟩
theorem StrT.stay {T : Nat → Prop} {w w' : World} {o : Option Addr} {l : List ByteArray} (h : StrT T w o l) (hq : Quiet0 w w') : StrT T w' o l := h.fr hq (fun _ _ ht => ⟨ht, fun h => h⟩)
theorem StrT.head {T : Nat → Prop} {w : World} {o : Option Addr} {s : ByteArray} {l : List ByteArray} (h : StrT T w o (s :: l)) : ∃ b off, o = some ⟨b, off, none⟩ ∧ T b ∧ w.cell? ⟨b, off, none⟩ = some (.string s) := by
  obtain ⟨b, off, h0, h1, h2⟩ := h 0 s rfl
  exact ⟨b, off, h0, h1, h2⟩
theorem StrT.tail {T : Nat → Prop} {w : World} {b off : Nat} {s : ByteArray} {l : List ByteArray} (h : StrT T w (some ⟨b, off, none⟩) (s :: l)) : StrT T w (some ⟨b, off + 1, none⟩) l := by
  intro j t ht
  obtain ⟨b', off', h0, h1, h2⟩ := h (j + 1) t (by simpa using ht)
  injection h0 with h0; injection h0 with h3 h4
  subst h3 h4
  exact ⟨b, off + 1, rfl, h1, by rw [show off + 1 + j = off + (j + 1) by omega]; exact h2⟩
theorem nm_at {T : Nat → Prop} {w : World} {o : Option Addr} {n : Nat} {e : List ByteArray} (h : NmIn T w o n e) (k : Nat) (hk : k < n) : ∃ b, o = some ⟨b, 0, none⟩ ∧ w.cell? ⟨b, n - 1 - k, none⟩ = some (.string (e.getD k ByteArray.empty)) := by
  obtain ⟨b, h0, _, h2⟩ := h.2.2 (by omega)
  refine ⟨b, h0, h2 (n - 1 - k) _ ?_⟩
  have hn := h.1
  rw [List.getElem?_reverse (by omega), List.getD_eq_getElem?_getD, show e.length - 1 - (n - 1 - k) = k by omega]
  rw [List.getElem?_eq_getElem (by omega)]; rfl
def RcQ (ok : ByteArray → Bool) (R L : Nat → Prop) (w : World) (x y l : List ByteArray) (h : Nd) (ps : To) (o1 : Option Addr) (l1 c1 l2 : Nat) (z : Ending) (w' : World) : Prop :=
  ∃ (o2 : Option Addr) (c2 : Nat) (ro : Option Addr) (rc : Nat), z = .returned (.tuple #[tmv (call1 ok x y l h ps).1 o1 l1 c1 o2 l2 c2, .slice ro (call1 ok x y l h ps).2.2.length rc]) ∧ TSlc (fun k => R k ∨ w.heap.size ≤ k) w' o2 l2 (call1 ok x y l h ps).2.1 ∧
    StrT L w' ro (call1 ok x y l h ps).2.2 ∧ (call1 ok x y l h ps).2.2.length ≤ rc ∧ Quiet0 w w'
theorem restNm_len (h : Nd) (l : List ByteArray) : (restNm h l).length ≤ l.length := by unfold restNm; split <;> simp
theorem restNm_mem {h : Nd} {l : List ByteArray} {s : ByteArray} (hs : s ∈ restNm h l) : s ∈ l := by
  unfold restNm at hs; split at hs
  · exact List.mem_of_mem_tail hs
  · exact hs
theorem callR_rest (ok : ByteArray → Bool) : ∀ (f : To) (bk : Int) (nm nm2 : ByteArray) (i : Nat) (x y l : List ByteArray), ((callR ok bk nm nm2 i x y l f).2.length ≤ l.length) ∧ ∀ s ∈ (callR ok bk nm nm2 i x y l f).2, s ∈ l
  | .nil, _, _, _, _, _, _, _ => ⟨Nat.le_refl _, fun _ h => h⟩
  | .cons h ps r, bk, nm, nm2, i, x, y, l => by
    rw [callR_cons]
    have h1 := callR_rest ok r bk nm nm2 (i + 1) x y (call1 ok (envOf bk nm i x) (envOf bk nm2 i y) l h ps).2.2
    have h2 : (call1 ok (envOf bk nm i x) (envOf bk nm2 i y) l h ps).2.2.length ≤ l.length ∧ ∀ s ∈ (call1 ok (envOf bk nm i x) (envOf bk nm2 i y) l h ps).2.2, s ∈ l := by
      unfold call1
      split
      · exact ⟨Nat.le_refl _, fun _ h => h⟩
      · have := callR_rest ok ps h.k h.nm (newNm ok h l) 0 (envOf bk nm i x) (envOf bk nm2 i y) (restNm h l)
        exact ⟨Nat.le_trans this.1 (restNm_len h l), fun s hs => restNm_mem (this.2 s hs)⟩
    exact ⟨Nat.le_trans h1.1 h2.1, fun s hs => h2.2 s (h1.2 s hs)⟩
theorem call1_rest (ok : ByteArray → Bool) (x y l : List ByteArray) (h : Nd) (ps : To) : ((call1 ok x y l h ps).2.2.length ≤ l.length) ∧ ∀ s ∈ (call1 ok x y l h ps).2.2, s ∈ l := by
  unfold call1
  split
  · exact ⟨Nat.le_refl _, fun _ h => h⟩
  · have := callR_rest ok ps h.k h.nm (newNm ok h l) 0 x y (restNm h l)
    exact ⟨Nat.le_trans this.1 (restNm_len h l), fun s hs => restNm_mem (this.2 s hs)⟩
theorem env_len (k : Int) (nm nm2 : ByteArray) (i : Nat) {x y : List ByteArray} (h : x.length = y.length) : (envOf k nm i x).length = (envOf k nm2 i y).length := by unfold envOf; split <;> simp [h]
end Sc
end Go.Proofs.YtnfodiedalhlhaaDoor
end
section
namespace Go.Proofs.YtnfodiedalhlhaaDoor
open Go.RowKit Go.Shelf
namespace Sc
def UJ (L0 : Nat) (_ : Nat) (_ : Unit) (D : Nat → Prop) (W : World) : Prop := L0 ≤ W.heap.size ∧ ∀ k, ¬ D k
set_option maxRecDepth 100000 in
set_option maxHeartbeats 4000000 in
theorem resDo_any (R : Nat → Prop) (L0 : Nat) : DoW 73 #[] R L0 (fun (s : Unit) _ _ => s) rsO (UJ L0) where
  own := fun b s D A h k hk => absurd hk (h.2 k)
  big := fun b s D A h => h.1
  weak := fun b b' s D A h _ => h
  stay := fun b s D A B h hf => ⟨Nat.le_trans h.1 hf.size, h.2⟩
  call := by
    rintro b s D A T e h o1 l1 c1 o2 l2 c2 no n c hJ hN hn hs hk
    obtain ⟨W0, hW0⟩ : ∃ W0, W0 = (A.alloc (.cells (cells9 h o1 l1 c1 o2 l2 c2) 30)).alloc (.cells zero9 30) := ⟨_, rfl⟩
    have HQ0 : Hid (Quiet0 A W0) := by rw [hW0]; exact (Quiet0.alloc _ _).trans (Quiet0.alloc _ _)
    have hz0 : A.heap.size + 2 = W0.heap.size := by rw [hW0]; simp
    have HZ0 := Lib.hid hz0
    have HJ := Lib.hid hJ
    have HB0 : Hid (W0.heap[A.heap.size]? = some (.cells (cells9 h o1 l1 c1 o2 l2 c2) 30 (0, 0))) := by
      show _ = _; rw [hW0, Below.heap_alloc _ _ _ (by simp)]; exact heap_alloc_new A _
    have HB1 : Hid (W0.heap[A.heap.size + 1]? = some (.cells zero9 30 (0, 0))) := by
      show _ = _; rw [hW0]
      have := heap_alloc_new (A.alloc (.cells (cells9 h o1 l1 c1 o2 l2 c2) 30)) (.cells zero9 30)
      simpa using this
    have HI := Lib.hid (index_any T e h.nm no n c W0 (hN.stay HQ0.out) (by omega))
    clear hN hs hk hz0 hJ
    unfold tmv
    by_cases hx : 0 ≤ ix e h.nm
    · have HO : Hid (rsO h e = { h with n := ix e h.nm }) := by show _ = _; unfold rsO; rw [if_pos hx]
      have hx' : ix e h.nm ≥ 0 := hx
      generalize ix e h.nm = r at *
      go_enter Tryd.func73, Tryd.ntmps73
      go_upto_region 1 with fail
      rw [← hW0]
      clear hW0
      generalize hB : A.heap.size = B at *
      have HBE := Lib.hid hB
      clear hB
      obtain ⟨⟨x0, x1, x2, x3, x4, x5, x6, x7, x8⟩, y0, y1, y2, y3, y4, y5, y6, y7, y8⟩ := block9 HB0.out
      obtain ⟨⟨z0, z1, z2, z3, z4, z5, z6, z7, z8⟩, t0, t1, t2, t3, t4, t5, t6, t7, t8⟩ := block9 HB1.out
      go_wp2_with fail
      refine HI.out.mono ?_; rintro x w2 ⟨rfl, rfl⟩
      go_wp2_with fail
      have hff := put9_fr (W0.setCell ⟨B, 2, none⟩ (.int .i64 r)) (B + 1) (.int .i64 h.k) (.string h.nm) (.int .i64 r) (.int .i64 h.tk) (.int .i64 h.tn) (.slice o1 l1 c1) (.slice o2 l2 c2) (.int .i64 h.fr) (.int .i64 h.en)
      have hbf := put9_block (a0 := .int .i64 h.k) (a1 := .string h.nm) (a2 := .int .i64 r) (a3 := .int .i64 h.tk) (a4 := .int .i64 h.tn) (a5 := .slice o1 l1 c1) (a6 := .slice o2 l2 c2) (a7 := .int .i64 h.fr) (a8 := .int .i64 h.en) (blk_fr (Fr.setCell (fun k => k = B) W0 ⟨B, 2, none⟩ (.int .i64 r) rfl) (by omega) HB1.out)
      change bodyPost _ _ _ _ _ (put9 (W0.setCell ⟨B, 2, none⟩ (.int .i64 r)) (B + 1) (.int .i64 h.k) (.string h.nm) (.int .i64 r) (.int .i64 h.tk) (.int .i64 h.tn) (.slice o1 l1 c1) (.slice o2 l2 c2) (.int .i64 h.fr) (.int .i64 h.en))
      clear x0 x1 x2 x3 x4 x5 x6 x7 x8 y0 y1 y2 y3 y4 y5 y6 y7 y8 z0 z1 z2 z3 z4 z5 z6 z7 z8 t0 t1 t2 t3 t4 t5 t6 t7 t8
      have hfw : Fr (fun k => k = B ∨ k = B + 1) W0 (W0.setCell ⟨B, 2, none⟩ (.int .i64 r)) := (Fr.setCell _ W0 ⟨B, 2, none⟩ (.int .i64 r) (.inl rfl))
      generalize put9 (W0.setCell ⟨B, 2, none⟩ (.int .i64 r)) (B + 1) (.int .i64 h.k) (.string h.nm) (.int .i64 r) (.int .i64 h.tk) (.int .i64 h.tn) (.slice o1 l1 c1) (.slice o2 l2 c2) (.int .i64 h.fr) (.int .i64 h.en) = wf at *
      obtain ⟨⟨x0, x1, x2, x3, x4, x5, x6, x7, x8⟩, _⟩ := block9 hbf
      have HFIN : Hid (DoQ (fun (s : Unit) _ _ => s) rsO (UJ L0) b s D e h o1 l1 c1 o2 l2 c2 A (.returned (.agg #[.int .i64 h.k, .string h.nm, .int .i64 r, .int .i64 h.tk, .int .i64 h.tn, .slice o1 l1 c1, .slice o2 l2 c2, .int .i64 h.fr, .int .i64 h.en])) wf) := by
        have hz2 := HZ0.out
        have hB := HBE.out
        have hfs := hff.size
        have hfz := hfw.size
        refine ⟨by rw [HO.out]; rfl, D, ⟨by have := HJ.out.1; omega, HJ.out.2⟩, ((HQ0.out.fr).trans' hfw (fun k hk h => by omega)).trans' hff (fun k hk h => by omega), fun k hk => .inl hk⟩
      clear hff hbf
      refine bodyPost_ret (by simp [results, Tryd.results73, go_sem, x0, x1, x2, x3, x4, x5, x6, x7, x8]; rfl) rfl ?_
      exact HFIN.out
    · have HO : Hid (rsO h e = h) := by show _ = _; unfold rsO; rw [if_neg hx]
      have hx' : ¬ ix e h.nm ≥ 0 := hx
      generalize ix e h.nm = r at *
      go_enter Tryd.func73, Tryd.ntmps73
      go_upto_region 1 with fail
      rw [← hW0]
      clear hW0
      generalize hB : A.heap.size = B at *
      have HBE := Lib.hid hB
      clear hB
      obtain ⟨⟨x0, x1, x2, x3, x4, x5, x6, x7, x8⟩, y0, y1, y2, y3, y4, y5, y6, y7, y8⟩ := block9 HB0.out
      obtain ⟨⟨z0, z1, z2, z3, z4, z5, z6, z7, z8⟩, t0, t1, t2, t3, t4, t5, t6, t7, t8⟩ := block9 HB1.out
      go_wp2_with fail
      refine HI.out.mono ?_; rintro x w2 ⟨rfl, rfl⟩
      go_wp2_with fail
      have hff := put9_fr W0 (B + 1) (.int .i64 h.k) (.string h.nm) (.int .i64 h.n) (.int .i64 h.tk) (.int .i64 h.tn) (.slice o1 l1 c1) (.slice o2 l2 c2) (.int .i64 h.fr) (.int .i64 h.en)
      have hbf := put9_block (a0 := .int .i64 h.k) (a1 := .string h.nm) (a2 := .int .i64 h.n) (a3 := .int .i64 h.tk) (a4 := .int .i64 h.tn) (a5 := .slice o1 l1 c1) (a6 := .slice o2 l2 c2) (a7 := .int .i64 h.fr) (a8 := .int .i64 h.en) HB1.out
      change bodyPost _ _ _ _ _ (put9 W0 (B + 1) (.int .i64 h.k) (.string h.nm) (.int .i64 h.n) (.int .i64 h.tk) (.int .i64 h.tn) (.slice o1 l1 c1) (.slice o2 l2 c2) (.int .i64 h.fr) (.int .i64 h.en))
      clear x0 x1 x2 x3 x4 x5 x6 x7 x8 y0 y1 y2 y3 y4 y5 y6 y7 y8 z0 z1 z2 z3 z4 z5 z6 z7 z8 t0 t1 t2 t3 t4 t5 t6 t7 t8
      have hfw : Fr (fun k => k = B ∨ k = B + 1) W0 W0 := Fr.refl _ _
      generalize put9 W0 (B + 1) (.int .i64 h.k) (.string h.nm) (.int .i64 h.n) (.int .i64 h.tk) (.int .i64 h.tn) (.slice o1 l1 c1) (.slice o2 l2 c2) (.int .i64 h.fr) (.int .i64 h.en) = wf at *
      obtain ⟨⟨x0, x1, x2, x3, x4, x5, x6, x7, x8⟩, _⟩ := block9 hbf
      have HFIN : Hid (DoQ (fun (s : Unit) _ _ => s) rsO (UJ L0) b s D e h o1 l1 c1 o2 l2 c2 A (.returned (.agg #[.int .i64 h.k, .string h.nm, .int .i64 h.n, .int .i64 h.tk, .int .i64 h.tn, .slice o1 l1 c1, .slice o2 l2 c2, .int .i64 h.fr, .int .i64 h.en])) wf) := by
        have hz2 := HZ0.out
        have hB := HBE.out
        have hfs := hff.size
        have hfz := hfw.size
        refine ⟨by rw [HO.out]; rfl, D, ⟨by have := HJ.out.1; omega, HJ.out.2⟩, ((HQ0.out.fr).trans' hfw (fun k hk h => by omega)).trans' hff (fun k hk h => by omega), fun k hk => .inl hk⟩
      clear hff hbf
      refine bodyPost_ret (by simp [results, Tryd.results73, go_sem, x0, x1, x2, x3, x4, x5, x6, x7, x8]; rfl) rfl ?_
      exact HFIN.out
set_option maxRecDepth 100000 in
set_option maxHeartbeats 4000000 in
theorem bareDo_any (R : Nat → Prop) (L0 : Nat) : DoW 86 #[] R L0 (fun (s : Unit) _ _ => s) brO (UJ L0) where
  own := fun b s D A h k hk => absurd hk (h.2 k)
  big := fun b s D A h => h.1
  weak := fun b b' s D A h _ => h
  stay := fun b s D A B h hf => ⟨Nat.le_trans h.1 hf.size, h.2⟩
  call := by
    rintro b s D A T e h o1 l1 c1 o2 l2 c2 no n c hJ hN hn hs hk
    obtain ⟨W0, hW0⟩ : ∃ W0, W0 = (A.alloc (.cells (cells9 h o1 l1 c1 o2 l2 c2) 30)).alloc (.cells zero9 30) := ⟨_, rfl⟩
    have HQ0 : Hid (Quiet0 A W0) := by rw [hW0]; exact (Quiet0.alloc _ _).trans (Quiet0.alloc _ _)
    have hz0 : A.heap.size + 2 = W0.heap.size := by rw [hW0]; simp
    have HZ0 := Lib.hid hz0
    have HJ := Lib.hid hJ
    have HB0 : Hid (W0.heap[A.heap.size]? = some (.cells (cells9 h o1 l1 c1 o2 l2 c2) 30 (0, 0))) := by
      show _ = _; rw [hW0, Below.heap_alloc _ _ _ (by simp)]; exact heap_alloc_new A _
    have HB1 : Hid (W0.heap[A.heap.size + 1]? = some (.cells zero9 30 (0, 0))) := by
      show _ = _; rw [hW0]
      have := heap_alloc_new (A.alloc (.cells (cells9 h o1 l1 c1 o2 l2 c2) 30)) (.cells zero9 30)
      simpa using this
    have HI := Lib.hid (index_any T e h.nm no n c W0 (hN.stay HQ0.out) (by omega))
    clear hN hs hk hz0 hJ
    unfold tmv
    by_cases hx : 0 ≤ ix e h.nm
    · have HO : Hid (brO h e = { h with n := ix e h.nm, nm := ByteArray.empty }) := by show _ = _; unfold brO; rw [if_pos hx]
      have hx' : ix e h.nm ≥ 0 := hx
      generalize ix e h.nm = r at *
      go_enter Tryd.func86, Tryd.ntmps86
      go_upto_region 1 with fail
      rw [← hW0]
      clear hW0
      generalize hB : A.heap.size = B at *
      have HBE := Lib.hid hB
      clear hB
      obtain ⟨⟨x0, x1, x2, x3, x4, x5, x6, x7, x8⟩, y0, y1, y2, y3, y4, y5, y6, y7, y8⟩ := block9 HB0.out
      obtain ⟨⟨z0, z1, z2, z3, z4, z5, z6, z7, z8⟩, t0, t1, t2, t3, t4, t5, t6, t7, t8⟩ := block9 HB1.out
      go_wp2_with fail
      refine HI.out.mono ?_; rintro x w2 ⟨rfl, rfl⟩
      go_wp2_with fail
      have hff := put9_fr ((W0.setCell ⟨B, 2, none⟩ (.int .i64 r)).setCell ⟨B, 1, none⟩ (.string ⟨#[]⟩)) (B + 1) (.int .i64 h.k) (.string ⟨#[]⟩) (.int .i64 r) (.int .i64 h.tk) (.int .i64 h.tn) (.slice o1 l1 c1) (.slice o2 l2 c2) (.int .i64 h.fr) (.int .i64 h.en)
      have hbf := put9_block (a0 := .int .i64 h.k) (a1 := .string ⟨#[]⟩) (a2 := .int .i64 r) (a3 := .int .i64 h.tk) (a4 := .int .i64 h.tn) (a5 := .slice o1 l1 c1) (a6 := .slice o2 l2 c2) (a7 := .int .i64 h.fr) (a8 := .int .i64 h.en) (blk_fr ((Fr.setCell (fun k => k = B) W0 ⟨B, 2, none⟩ (.int .i64 r) rfl).trans (Fr.setCell (fun k => k = B) _ ⟨B, 1, none⟩ (.string ⟨#[]⟩) rfl)) (by omega) HB1.out)
      change bodyPost _ _ _ _ _ (put9 ((W0.setCell ⟨B, 2, none⟩ (.int .i64 r)).setCell ⟨B, 1, none⟩ (.string ⟨#[]⟩)) (B + 1) (.int .i64 h.k) (.string ⟨#[]⟩) (.int .i64 r) (.int .i64 h.tk) (.int .i64 h.tn) (.slice o1 l1 c1) (.slice o2 l2 c2) (.int .i64 h.fr) (.int .i64 h.en))
      clear x0 x1 x2 x3 x4 x5 x6 x7 x8 y0 y1 y2 y3 y4 y5 y6 y7 y8 z0 z1 z2 z3 z4 z5 z6 z7 z8 t0 t1 t2 t3 t4 t5 t6 t7 t8
      have hfw : Fr (fun k => k = B ∨ k = B + 1) W0 ((W0.setCell ⟨B, 2, none⟩ (.int .i64 r)).setCell ⟨B, 1, none⟩ (.string ⟨#[]⟩)) := (Fr.setCell _ W0 ⟨B, 2, none⟩ (.int .i64 r) (.inl rfl)).trans (Fr.setCell _ _ ⟨B, 1, none⟩ (.string ⟨#[]⟩) (.inl rfl))
      generalize put9 ((W0.setCell ⟨B, 2, none⟩ (.int .i64 r)).setCell ⟨B, 1, none⟩ (.string ⟨#[]⟩)) (B + 1) (.int .i64 h.k) (.string ⟨#[]⟩) (.int .i64 r) (.int .i64 h.tk) (.int .i64 h.tn) (.slice o1 l1 c1) (.slice o2 l2 c2) (.int .i64 h.fr) (.int .i64 h.en) = wf at *
      obtain ⟨⟨x0, x1, x2, x3, x4, x5, x6, x7, x8⟩, _⟩ := block9 hbf
      have HFIN : Hid (DoQ (fun (s : Unit) _ _ => s) brO (UJ L0) b s D e h o1 l1 c1 o2 l2 c2 A (.returned (.agg #[.int .i64 h.k, .string ⟨#[]⟩, .int .i64 r, .int .i64 h.tk, .int .i64 h.tn, .slice o1 l1 c1, .slice o2 l2 c2, .int .i64 h.fr, .int .i64 h.en])) wf) := by
        have hz2 := HZ0.out
        have hB := HBE.out
        have hfs := hff.size
        have hfz := hfw.size
        refine ⟨by rw [HO.out]; rfl, D, ⟨by have := HJ.out.1; omega, HJ.out.2⟩, ((HQ0.out.fr).trans' hfw (fun k hk h => by omega)).trans' hff (fun k hk h => by omega), fun k hk => .inl hk⟩
      clear hff hbf
      refine bodyPost_ret (by simp [results, Tryd.results86, go_sem, x0, x1, x2, x3, x4, x5, x6, x7, x8]; rfl) rfl ?_
      exact HFIN.out
    · have HO : Hid (brO h e = { h with n := ix e h.nm }) := by show _ = _; unfold brO; rw [if_neg hx]
      have hx' : ¬ ix e h.nm ≥ 0 := hx
      generalize ix e h.nm = r at *
      go_enter Tryd.func86, Tryd.ntmps86
      go_upto_region 1 with fail
      rw [← hW0]
      clear hW0
      generalize hB : A.heap.size = B at *
      have HBE := Lib.hid hB
      clear hB
      obtain ⟨⟨x0, x1, x2, x3, x4, x5, x6, x7, x8⟩, y0, y1, y2, y3, y4, y5, y6, y7, y8⟩ := block9 HB0.out
      obtain ⟨⟨z0, z1, z2, z3, z4, z5, z6, z7, z8⟩, t0, t1, t2, t3, t4, t5, t6, t7, t8⟩ := block9 HB1.out
      go_wp2_with fail
      refine HI.out.mono ?_; rintro x w2 ⟨rfl, rfl⟩
      go_wp2_with fail
      have hff := put9_fr (W0.setCell ⟨B, 2, none⟩ (.int .i64 r)) (B + 1) (.int .i64 h.k) (.string h.nm) (.int .i64 r) (.int .i64 h.tk) (.int .i64 h.tn) (.slice o1 l1 c1) (.slice o2 l2 c2) (.int .i64 h.fr) (.int .i64 h.en)
      have hbf := put9_block (a0 := .int .i64 h.k) (a1 := .string h.nm) (a2 := .int .i64 r) (a3 := .int .i64 h.tk) (a4 := .int .i64 h.tn) (a5 := .slice o1 l1 c1) (a6 := .slice o2 l2 c2) (a7 := .int .i64 h.fr) (a8 := .int .i64 h.en) (blk_fr (Fr.setCell (fun k => k = B) W0 ⟨B, 2, none⟩ (.int .i64 r) rfl) (by omega) HB1.out)
      change bodyPost _ _ _ _ _ (put9 (W0.setCell ⟨B, 2, none⟩ (.int .i64 r)) (B + 1) (.int .i64 h.k) (.string h.nm) (.int .i64 r) (.int .i64 h.tk) (.int .i64 h.tn) (.slice o1 l1 c1) (.slice o2 l2 c2) (.int .i64 h.fr) (.int .i64 h.en))
      clear x0 x1 x2 x3 x4 x5 x6 x7 x8 y0 y1 y2 y3 y4 y5 y6 y7 y8 z0 z1 z2 z3 z4 z5 z6 z7 z8 t0 t1 t2 t3 t4 t5 t6 t7 t8
      have hfw : Fr (fun k => k = B ∨ k = B + 1) W0 (W0.setCell ⟨B, 2, none⟩ (.int .i64 r)) := (Fr.setCell _ W0 ⟨B, 2, none⟩ (.int .i64 r) (.inl rfl))
      generalize put9 (W0.setCell ⟨B, 2, none⟩ (.int .i64 r)) (B + 1) (.int .i64 h.k) (.string h.nm) (.int .i64 r) (.int .i64 h.tk) (.int .i64 h.tn) (.slice o1 l1 c1) (.slice o2 l2 c2) (.int .i64 h.fr) (.int .i64 h.en) = wf at *
      obtain ⟨⟨x0, x1, x2, x3, x4, x5, x6, x7, x8⟩, _⟩ := block9 hbf
      have HFIN : Hid (DoQ (fun (s : Unit) _ _ => s) brO (UJ L0) b s D e h o1 l1 c1 o2 l2 c2 A (.returned (.agg #[.int .i64 h.k, .string h.nm, .int .i64 r, .int .i64 h.tk, .int .i64 h.tn, .slice o1 l1 c1, .slice o2 l2 c2, .int .i64 h.fr, .int .i64 h.en])) wf) := by
        have hz2 := HZ0.out
        have hB := HBE.out
        have hfs := hff.size
        have hfz := hfw.size
        refine ⟨by rw [HO.out]; rfl, D, ⟨by have := HJ.out.1; omega, HJ.out.2⟩, ((HQ0.out.fr).trans' hfw (fun k hk h => by omega)).trans' hff (fun k hk h => by omega), fun k hk => .inl hk⟩
      clear hff hbf
      refine bodyPost_ret (by simp [results, Tryd.results86, go_sem, x0, x1, x2, x3, x4, x5, x6, x7, x8]; rfl) rfl ?_
      exact HFIN.out
end Sc
end Go.Proofs.YtnfodiedalhlhaaDoor
end
