/-
  Texts laid together (ScStrip, ScBareW, TeSame, TeEqualP, ScAlk): what each one proves, and its conditions, stands at its head.
-/
import Derived.Deep.RegionLaw
import Derived.Test.YtnfodiedalhlhaaDoorSA1
import Derived.Test.YtnfodiedalhlhaaDoorSA2
import Derived.Test.YtnfodiedalhlhaaDoorSA3
import Derived.Test.YtnfodiedalhlhaaDoorSA4
import Derived.Test.YtnfodiedalhlhaaDoorSA5
import Derived.Test.YtnfodiedalhlhaaDoorSA6
import Derived.Test.YtnfodiedalhlhaaDoorSA7
import Derived.Test.YtnfodiedalhlhaaDoorSA8
import Derived.Test.YtnfodiedalhlhaaDoorSA9
import Derived.Test.YtnfodiedalhlhaaDoorSA10
import Derived.Test.YtnfodiedalhlhaaDoorSA11
import Derived.Test.YtnfodiedalhlhaaDoorSA12
import Derived.Test.YtnfodiedalhlhaaDoorSA13
import Derived.Test.YtnfodiedalhlhaaDoorSA14
import Derived.Test.YtnfodiedalhlhaaDoorSA15
section
/-
  scope.bare's strip: spans and binders' names go, in place. Conditions: the arrays of parts are blocks of their own; there are few terms.
-/
namespace Go.Proofs.YtnfodiedalhlhaaDoor
open Go.RowKit Go.Shelf
namespace Sc

/-- the box that holds strip itself -/
def FBox (w : World) (fb : Nat) : Prop := w.heap[fb]? = some (.cells #[.func (.func 85) #[] #[.pointer (some ⟨fb, 0, none⟩)]] 64 (0, 0))
def StQ (R D : Nat → Prop) (h : Nd) (ps : To) (o1 : Option Addr) (l1 c1 : Nat) (o2 : Option Addr) (l2 c2 : Nat) (w : World) (x : Ending) (w' : World) : Prop :=
  x = .returned (tmv (stripH h) o1 l1 c1 o2 l2 c2) ∧ TO R w' D o2 l2 (stripF ps) ∧ Fr D w w'
def TStrip (h : Nd) (ps : To) : Prop := ∀ (w : World) (R D : Nat → Prop) (fb : Nat) (o1 : Option Addr) (l1 c1 : Nat) (o2 : Option Addr) (l2 c2 : Nat), SlcIn R w o1 l1 h.tp → TO R w D o2 l2 ps → FBox w fb → ¬ D fb → (∀ k, R k → ¬ D k) → (∀ k, D k → k < w.heap.size) → (∀ k, R k → k < w.heap.size) → ps.size ≤ 100000 →
  Calls Tryd.prog 85 #[tmv h o1 l1 c1 o2 l2 c2, .pointer (some ⟨fb, 0, none⟩)] w (StQ R D h ps o1 l1 c1 o2 l2 c2 w)
theorem get_some : ∀ (f : To) (i : Nat), i < f.length → ∃ h ps, f.get i = some (h, ps)
  | .nil, i, h => by simp [To.length] at h
  | .cons h ps r, 0, _ => ⟨h, ps, rfl⟩
  | .cons h ps r, i + 1, hi => get_some r i (by simp [To.length] at hi; omega)
theorem drop_get : ∀ (f : To) (i : Nat) (h : Nd) (ps : To), f.get i = some (h, ps) → f.drop i = .cons h ps (f.drop (i + 1))
  | .nil, i, h, ps, e => by simp [To.get] at e
  | .cons h' ps' r, 0, h, ps, e => by
    simp [To.get] at e
    obtain ⟨rfl, rfl⟩ := e
    simp [To.drop, To.drop_zero]
  | .cons h' ps' r, i + 1, h, ps, e => by simp only [To.drop]; exact drop_get r i h ps e
/-- a round's state: the first parts are written anew -/
def StR (R D : Nat → Prop) (E : Nat → Nat → Prop) (b9 : Nat) (ps : To) (l2 : Nat) (wx : World) (t : Value) (wr : World) : Prop :=
  ∃ (i : Nat) (p : To), t = .int .i64 i ∧ i ≤ l2 ∧ p.length = i ∧ p.app (stripF (ps.drop i)) = stripF ps ∧ (0 < l2 → TermB wr b9 ∧ TOI R wr E b9 0 (p.app (ps.drop i))) ∧ Fr D wx wr
theorem StR.drew {R D : Nat → Prop} {E : Nat → Nat → Prop} {b9 : Nat} {ps : To} {l2 : Nat} {wx : World} {t : Value} {wr : World} (h : StR R D E b9 ps l2 wx t wr) : StR R D E b9 ps l2 wx t wr.drew := by
  obtain ⟨i, p, h1, h2, h3, h4, h5, h6⟩ := h
  refine ⟨i, p, h1, h2, h3, h4, fun h0 => ?_, h6.trans (Fr.drew D wr)⟩
  obtain ⟨g1, g2⟩ := h5 h0
  exact ⟨g1.fr (Fr.drew (fun _ => False) wr) (fun h => h), TOI.keep (Fr.drew (fun _ => False) wr) (fun _ _ hk => ⟨hk, fun h => h⟩) _ _ _ _ g2 (fun _ _ _ => rfl) (fun _ _ _ h => h)⟩
theorem strip_next {R : Nat → Prop} {wr w2 : World} {E : Nat → Nat → Prop} {b9 : Nat} {p r : To} {hd : Nd} {qs : To} {p1 : Option Addr} {m1 d1 : Nat} {p2 : Option Addr} {m2 d2 : Nat}
    (ht : TOI R wr E b9 0 (p.app (.cons hd qs r))) (htb : TermB wr b9) (hE : ∀ j k, E j k → k ≠ b9) (hdj : ∀ i j k, E i k → E j k → i = j) (hRE : ∀ k, R k → ¬ (k = b9 ∨ E p.length k)) (hf : Fr (E p.length) wr w2)
    (hc : Cells9 wr b9 (p.length * 9) hd p1 m1 d1 p2 m2 d2) (hs : SlcIn R wr p1 m1 hd.tp) (hto : TO R w2 (E p.length) p2 m2 (stripF qs)) :
    TOI R (put9at w2 b9 (p.length * 9) (.int .i64 (stripH hd).k) (.string (stripH hd).nm) (.int .i64 (stripH hd).n) (.int .i64 (stripH hd).tk) (.int .i64 (stripH hd).tn) (.slice p1 m1 d1) (.slice p2 m2 d2) (.int .i64 (stripH hd).fr) (.int .i64 (stripH hd).en)) E b9 0 (p.app (.cons (stripH hd) (stripF qs) r)) := by
  have hb : ¬ E p.length b9 := fun h => hE _ _ h rfl
  have hlt : b9 < wr.heap.size := by obtain ⟨cur, h⟩ := htb; exact lt_of_block h
  have hf9 := put9at_fr w2 b9 (p.length * 9) (.int .i64 (stripH hd).k) (.string (stripH hd).nm) (.int .i64 (stripH hd).n) (.int .i64 (stripH hd).tk) (.int .i64 (stripH hd).tn) (.slice p1 m1 d1) (.slice p2 m2 d2) (.int .i64 (stripH hd).fr) (.int .i64 (stripH hd).en)
  have hff : Fr (fun k => k = b9 ∨ E p.length k) wr (put9at w2 b9 (p.length * 9) (.int .i64 (stripH hd).k) (.string (stripH hd).nm) (.int .i64 (stripH hd).n) (.int .i64 (stripH hd).tk) (.int .i64 (stripH hd).tn) (.slice p1 m1 d1) (.slice p2 m2 d2) (.int .i64 (stripH hd).fr) (.int .i64 (stripH hd).en)) := (hf.mono (fun _ _ h => .inr h)).trans (hf9.mono (fun _ _ h => .inl h))
  refine TOI.put hff (fun k _ hk => hRE k hk) p E b9 0 hd (stripH hd) qs (stripF qs) r ht ?_ ?_ ?_
  · intro c _ hcc
    rw [put9at_other _ _ _ _ _ _ _ _ _ _ _ _ c (by omega)]
    exact hf.cellb hlt hb
  · rintro j k hk hj (h | h)
    · exact hE _ _ hk h
    · exact hj (hdj _ _ _ hk h)
  · rw [Nat.zero_add]
    exact ⟨p1, m1, d1, p2, m2, d2, put9at_cells (hc.fr hf hb), hs.fr hff (fun k _ hk => ⟨hk, hRE k hk⟩), hto.fr hf9 (fun k _ hk => ⟨hk, fun e => hRE k hk (.inl e)⟩) (fun k hk e => hE _ _ hk e)⟩
theorem app_snoc : ∀ (p : To) (h : Nd) (qs r : To), (p.app (.cons h qs .nil)).app r = p.app (.cons h qs r)
  | .nil, _, _, _ => rfl
  | .cons h' ps' r', h, qs, r => by simp only [To.app]; rw [app_snoc r' h qs r]
theorem snoc_len : ∀ (p : To) (h : Nd) (qs : To), (p.app (.cons h qs .nil)).length = p.length + 1
  | .nil, _, _ => rfl
  | .cons h' ps' r', h, qs => by simp only [To.app, To.length]; rw [snoc_len r' h qs]
theorem strip_rnd {R D : Nat → Prop} {E : Nat → Nat → Prop} {b9 : Nat} {ps p : To} {l2 i : Nat} {wx wr w2 : World} {hd : Nd} {qs : To} {p1 : Option Addr} {m1 d1 : Nat} {p2 : Option Addr} {m2 d2 : Nat} {t : Value} (ht : t = .int .i64 ((i : Int) + 1)) (hp : p.length = i)
    (hpe : p.app (stripF (ps.drop i)) = stripF ps) (hdr : ps.drop i = .cons hd qs (ps.drop (i + 1))) (hlt : i < l2) (ha : TOI R wr E b9 0 (p.app (.cons hd qs (ps.drop (i + 1))))) (htb : TermB wr b9) (hE : ∀ j k, E j k → D k ∧ k ≠ b9) (hdb : D b9)
    (hRD : ∀ k, R k → ¬ D k) (hdj : ∀ i j k, E i k → E j k → i = j) (hf3 : Fr (E i) wr w2) (hc : Cells9 wr b9 (i * 9) hd p1 m1 d1 p2 m2 d2) (hs : SlcIn R wr p1 m1 hd.tp) (hto : TO R w2 (E i) p2 m2 (stripF qs)) (hf : Fr D wx wr) :
    StR R D E b9 ps l2 wx t (put9at w2 b9 (i * 9) (.int .i64 (stripH hd).k) (.string (stripH hd).nm) (.int .i64 (stripH hd).n) (.int .i64 (stripH hd).tk) (.int .i64 (stripH hd).tn) (.slice p1 m1 d1) (.slice p2 m2 d2) (.int .i64 (stripH hd).fr) (.int .i64 (stripH hd).en)) := by
  subst hp
  refine ⟨p.length + 1, p.app (.cons (stripH hd) (stripF qs) .nil), by rw [ht]; congr 1, hlt, snoc_len _ _ _, ?_, fun _ => ⟨?_, ?_⟩, ?_⟩
  · rw [app_snoc, ← hpe, hdr]; rfl
  · exact put9at_termB (htb.fr hf3 (fun h => (hE _ _ h).2 rfl)) _ _ _ _ _ _ _ _ _
  · rw [app_snoc]
    exact strip_next ha htb (fun j k h => (hE j k h).2) hdj (fun k hk h => h.elim (fun e => hRD k hk (e ▸ hdb)) (fun h => hRD k hk (hE _ _ h).1)) hf3 hc hs hto
  · exact (hf.trans (hf3.mono (fun k _ h => (hE _ _ h).1))).trans ((put9at_fr w2 b9 (p.length * 9) _ _ _ _ _ _ _ _ _).mono (fun k _ h => by rw [h]; exact hdb))
set_option maxRecDepth 100000 in
set_option maxHeartbeats 8000000 in
theorem strip_any (h : Nd) (ps : To) : TStrip h ps := by
  refine To.ind' (T := TStrip) ?_ h ps
  intro h ps ih w R D fb o1 l1 c1 o2 l2 c2 hs1 hs hfb hDf hRD hDl hRl hsz
  have HS1 := Lib.hid hs1
  have IH := Lib.hid ih
  have HL := Lib.hid hs.1
  have hmx := hs.2.1
  have hll := To.length_le ps
  rw [← hs.1] at hll
  obtain ⟨b9, E, hbe⟩ : ∃ (b9 : Nat) (E : Nat → Nat → Prop), 0 < l2 → (o2 = some ⟨b9, 0, none⟩ ∧ D b9 ∧ TermB w b9 ∧ (∀ j k, E j k → D k ∧ k ≠ b9) ∧ (∀ i j k, E i k → E j k → i = j) ∧ TOI R w E b9 0 ps) := by
    by_cases h0 : 0 < l2
    · obtain ⟨b, E, h1⟩ := hs.2.2 h0
      exact ⟨b, E, fun _ => h1⟩
    · exact ⟨0, fun _ _ => False, fun h => absurd h h0⟩
  have HBE := Lib.hid hbe
  have HFB := Lib.hid hfb
  have HDF := Lib.hid hDf
  have HRD := Lib.hid hRD
  have HDL := Lib.hid hDl
  have HRL := Lib.hid hRl
  have hfl := lt_of_block hfb
  obtain ⟨W0, hW0⟩ : ∃ W0, W0 = (w.alloc (.cells (cells9 h o1 l1 c1 o2 l2 c2) 30)).alloc (.cells zero9 30) := ⟨_, rfl⟩
  have HQ0 : Hid (Quiet0 w W0) := by rw [hW0]; exact (Quiet0.alloc _ _).trans (Quiet0.alloc _ _)
  have HB0 : Hid (W0.heap[w.heap.size]? = some (.cells (cells9 h o1 l1 c1 o2 l2 c2) 30 (0, 0))) := by
    show _ = _; rw [hW0, Below.heap_alloc _ _ _ (by simp)]; exact heap_alloc_new w _
  have HB1 : Hid (W0.heap[w.heap.size + 1]? = some (.cells zero9 30 (0, 0))) := by
    show _ = _; rw [hW0]
    have := heap_alloc_new (w.alloc (.cells (cells9 h o1 l1 c1 o2 l2 c2) 30)) (.cells zero9 30)
    simpa using this
  have HZ : Hid (W0.heap.size = w.heap.size + 2) := by show _ = _; rw [hW0]; simp
  clear hs1 hs ih hbe hfb hDf hRD hDl hRl
  unfold tmv
  go_enter Tryd.func85, Tryd.ntmps85
  go_upto_region 1 with fail
  rw [← hW0]
  clear hW0
  generalize hB : w.heap.size = B at *
  have HB := Lib.hid hB
  clear hB
  obtain ⟨⟨x0, x1, x2, x3, x4, x5, x6, x7, x8⟩, y0, y1, y2, y3, y4, y5, y6, y7, y8⟩ := block9 HB0.out
  go_upto_region 2 with fail
  have hf1 : Fr (fun k => k = B) W0 ((W0.setCell ⟨B, 7, none⟩ (.int .i64 0)).setCell ⟨B, 8, none⟩ (.int .i64 0)) := (Fr.setCell (fun k => k = B) W0 ⟨B, 7, none⟩ (.int .i64 0) rfl).trans (Fr.setCell (fun k => k = B) _ ⟨B, 8, none⟩ (.int .i64 0) rfl)
  have hb1 : ((W0.setCell ⟨B, 7, none⟩ (.int .i64 0)).setCell ⟨B, 8, none⟩ (.int .i64 0)).heap[B]? = some (.cells (cells9 { h with fr := 0, en := 0 } o1 l1 c1 o2 l2 c2) 30 (0, 0)) := set_block (i := 8) (u := .int .i64 0) (set_block (i := 7) (u := .int .i64 0) HB0.out)
  have HF1 := Lib.hid hf1
  have HBA := Lib.hid hb1
  clear hf1 hb1 x0 x1 x2 x3 x4 x5 x6 x7 x8 y0 y1 y2 y3 y4 y5 y6 y7 y8
  change Code.wp _ _ _ _ ((W0.setCell ⟨B, 7, none⟩ (.int .i64 0)).setCell ⟨B, 8, none⟩ (.int .i64 0))
  generalize (W0.setCell ⟨B, 7, none⟩ (.int .i64 0)).setCell ⟨B, 8, none⟩ (.int .i64 0) = W1 at *
  obtain ⟨⟨x0, x1, x2, x3, x4, x5, x6, x7, x8⟩, y0, y1, y2, y3, y4, y5, y6, y7, y8⟩ := block9 HBA.out
  have hbn := binds_any h.k 1 W1
  have HBN : Hid (Calls Tryd.prog 47 #[.int .i64 h.k, .int .i64 1] W1 fun e w' => e = .returned (.bool (bindK h.k)) ∧ W1 = w') := by
    have hk : bindsB h.k 1 = bindK h.k := by unfold bindsB bindK; cases h4 : (h.k == 4) <;> cases h6 : (h.k == 6) <;> cases h7 : (h.k == 7) <;> rfl
    rw [hk] at hbn; exact hbn
  clear hbn
  go_wp2_with fail
  refine HBN.out.mono ?_; rintro x w2 ⟨rfl, rfl⟩
  go_upto_if 9 with fail
  go_cut [9] (fun _ wx => wx.heap[B]? = some (.cells (cells9 (stripH h) o1 l1 c1 o2 l2 c2) 30 (0, 0)) ∧ Fr (fun k => k = B) W0 wx)
  case first =>
    cases hb : bindK h.k
    · have HE : Hid (stripH h = { h with fr := 0, en := 0 }) := by show _ = _; unfold stripH; rw [hb]; rfl
      clear hb
      go_wp2_with fail
      go_meet
      rw [HE.out]
      exact ⟨HBA.out, HF1.out⟩
    · have HE : Hid (stripH h = { h with fr := 0, en := 0, nm := ByteArray.empty }) := by show _ = _; unfold stripH; rw [hb]; rfl
      clear hb
      go_wp2_with fail
      go_meet
      rw [HE.out]
      exact ⟨set_block (i := 1) (u := .string ⟨#[]⟩) HBA.out, HF1.out.trans (Fr.setCell _ _ _ _ rfl)⟩
  case rest =>
    rename World => wx
    obtain ⟨hbx, hfx⟩ := hcut
    clear x0 x1 x2 x3 x4 x5 x6 x7 x8 y0 y1 y2 y3 y4 y5 y6 y7 y8
    have HBX := Lib.hid hbx
    have HFX := Lib.hid hfx
    have hHx : (stripH h).k = h.k ∧ (stripH h).n = h.n ∧ (stripH h).tk = h.tk ∧ (stripH h).tn = h.tn ∧ (stripH h).fr = 0 ∧ (stripH h).en = 0 := ⟨rfl, rfl, rfl, rfl, rfl, rfl⟩
    obtain ⟨⟨x0, x1, x2, x3, x4, x5, x6, x7, x8⟩, _⟩ := block9 hbx
    clear hbx hfx hHx
    generalize hgh : stripH h = gh at *
    have HGH := Lib.hid hgh
    clear hgh
    go_wp2_with fail
    clear x0 x1 x2 x3 x4 x5 x6 x7 x8
    have HBT : Hid (∀ k, D k → k ≠ B ∧ k ≠ B + 1) := fun k hk => by have := HDL.out k hk; omega
    have hfw : Fr (fun k => k = B) w wx := HQ0.out.fr.trans HFX.out
    have HFW := Lib.hid hfw
    clear hfw
    go_loopw [4, 14] (fun _ t wr => StR R D E b9 ps l2 wx t wr) (fun _ t _ => l2 - (intOf t).toNat)
    case atStart =>
      refine ⟨0, .nil, rfl, Nat.zero_le _, rfl, by rw [To.drop_zero]; rfl, fun h0 => ?_, Fr.refl _ _⟩
      obtain ⟨_, hDb, htb, hE, _, ha⟩ := HBE.out h0
      rw [To.drop_zero]
      refine ⟨htb.fr HFW.out (HBT.out _ hDb).1, TOI.keep HFW.out (fun k hk hr => ⟨hr, fun e => by have := HRL.out k hr; omega⟩) ps E b9 0 ha (fun c _ _ => ?_) (fun j k hk => (HBT.out _ (hE j k hk).1).1)⟩
      obtain ⟨cur, hcur⟩ := htb
      exact HFW.out.cellb (lt_of_block hcur) (HBT.out _ hDb).1
    case round =>
      obtain ⟨i, p, rfl, hi, hpl, hpe, hti, hf⟩ := hrel
      have HPL := Lib.hid hpl
      have HPE := Lib.hid hpe
      have HTI := Lib.hid hti
      have HF := Lib.hid hf
      have hbw : wr.heap[B]? = some (.cells (cells9 gh o1 l1 c1 o2 l2 c2) 30 (0, 0)) := blk_fr hf (fun h => (HBT.out _ h).1 rfl) HBX.out
      have HBW := Lib.hid hbw
      clear hpl hpe hti hf hbw
      by_cases hlt : i < l2
      · have hlt' : (i : Int) < l2 := by omega
        have h0 : 0 < l2 := by omega
        obtain ⟨hob, hDb, _, hE, hdj, _⟩ := HBE.out h0
        subst hob
        obtain ⟨htb, ha⟩ := HTI.out h0
        obtain ⟨hd, qs, hg⟩ : ∃ hd qs, ps.get i = some (hd, qs) := by
          have hlt2 : i < ps.length := by have := HL.out; omega
          exact get_some ps i hlt2
        have hdr := drop_get ps i hd qs hg
        have HDR := Lib.hid hdr
        have HLT := Lib.hid hlt
        have hsq := To.size_get ps i hd qs hg
        rw [hdr] at ha
        have hpl := HPL.out
        subst hpl
        obtain ⟨p1, m1, d1, p2, m2, d2, hc9, hsl, hto⟩ := TOI.nth p E b9 0 hd qs _ ha
        rw [Nat.zero_add] at hc9
        have HA := Lib.hid ha
        have HTB := Lib.hid htb
        have HE := Lib.hid hE
        have HDJ := Lib.hid hdj
        have HC9 := Lib.hid hc9
        have HSL := Lib.hid hsl
        have hfwr : Fr (fun k => D k ∨ k = B) w wr := (HFW.out.mono (fun _ _ h => .inr h)).trans (HF.out.mono (fun _ _ h => .inl h))
        have hfb : FBox wr fb := blk_fr hfwr (fun h => by
          rcases h with h | h
          · exact HDF.out h
          · omega) HFB.out
        have hwz := hfwr.size
        have hB := HB.out
        have hRE : ∀ k, R k → ¬ E p.length k := fun k hk h => HRD.out k hk (hE _ _ h).1
        have HC : Hid (∀ W, Quiet0 wr W → Calls Tryd.prog 85 #[tmv hd p1 m1 d1 p2 m2 d2, .pointer (some ⟨fb, 0, none⟩)] W (StQ R (E p.length) hd qs p1 m1 d1 p2 m2 d2 W)) := fun W hq => IH.out p.length hd qs hg W R (E p.length) fb p1 m1 d1 p2 m2 d2 (hsl.stay hq) (hto.stay hq) (blk_after hq hfb) (fun h => HDF.out (hE _ _ h).1) hRE (fun k hk => by have := HDL.out k (hE _ _ hk).1; have := hq.size; omega) (fun k hk => by have := HRL.out k hk; have := hq.size; omega) (by omega)
        have HCB : Hid (∀ W, Fr (E p.length) wr W → W.cell? ⟨B, 6, none⟩ = some (.slice (some ⟨b9, 0, none⟩) l2 c2) ∧ W.cell? ⟨fb, 0, none⟩ = some (.func (.func 85) #[] #[.pointer (some ⟨fb, 0, none⟩)]) ∧ Cells9 W b9 (p.length * 9) hd p1 m1 d1 p2 m2 d2 ∧ TermB W b9) := fun W hf => ⟨((cells9_block HBW.out).fr hf (fun h => (HBT.out _ (hE _ _ h).1).1 rfl)).2.2.2.2.2.2.1, cell_of_one (blk_fr hf (fun h => HDF.out (hE _ _ h).1) hfb), hc9.fr hf (fun h => (hE _ _ h).2 rfl), htb.fr hf (fun h => (hE _ _ h).2 rfl)⟩
        obtain ⟨g6, gf, ⟨u0, u1, u2, u3, u4, u5, u6, u7, u8⟩, _⟩ := HCB.out wr (Fr.refl _ _)
        have hpi : p.length ≤ 100000 := by omega
        have hpm : ((p.length : Nat) : Int) < l2 := by omega
        have hp0 : (0 : Int) ≤ ((p.length : Nat) : Int) := by omega
        unfold tmv at HC
        clear hg hdr hsq ha htb hE hdj hc9 hsl hto hfb hRE
        generalize hpg : p.length = i at *
        have HPG := Lib.hid hpg
        clear hpg
        go_upto_region 7 with fail
        have hqc := Quiet0.refl wr
        go_region_law (first
          | (go_simp; go_at_call 85; (with_reducible refine Calls.mono (HC.out _ ?hq) ?_); (case hq => (repeat (first | with_reducible exact hqc | with_reducible exact Quiet0.refl _ | with_reducible refine Quiet0.trans ?_ (Quiet0.alloc _ _) | with_reducible refine Quiet0.trans ?_ (Quiet0.drew _) | fail))); rintro x1w w2 ⟨rfl, ht2, hf2⟩; unfold tmv; have HT2 := Lib.hid ht2; have hf3 : Fr (E i) wr w2 := Fr.trans (Quiet0.fr (by (repeat (first | with_reducible exact hqc | with_reducible exact Quiet0.refl _ | with_reducible refine Quiet0.trans ?_ (Quiet0.alloc _ _) | with_reducible refine Quiet0.trans ?_ (Quiet0.drew _) | fail)))) hf2; have HF3 := Lib.hid hf3; obtain ⟨v6, vf, ⟨s0, s1, s2, s3, s4, s5, s6, s7, s8⟩, stb⟩ := HCB.out _ hf3; have r0 := termB_frozen stb (i * 9); have r1 := termB_frozen stb (i * 9 + 1); have r2 := termB_frozen stb (i * 9 + 2); have r3 := termB_frozen stb (i * 9 + 3); have r4 := termB_frozen stb (i * 9 + 4); have r5 := termB_frozen stb (i * 9 + 5); have r6 := termB_frozen stb (i * 9 + 6); have r7 := termB_frozen stb (i * 9 + 7); have r8 := termB_frozen stb (i * 9 + 8); clear ht2 hf2 hf3 stb)
          | fail)
        all_goals
          go_wp2_with fail
          go_roundw
          case rel =>
            first
              | with_reducible exact strip_rnd rfl HPG.out HPE.out HDR.out HLT.out HA.out HTB.out HE.out hDb HRD.out HDJ.out HF3.out HC9.out HSL.out HT2.out HF.out
              | with_reducible exact (strip_rnd rfl HPG.out HPE.out HDR.out HLT.out HA.out HTB.out HE.out hDb HRD.out HDJ.out HF3.out HC9.out HSL.out HT2.out HF.out).drew
              | with_reducible exact (strip_rnd rfl HPG.out HPE.out HDR.out HLT.out HA.out HTB.out HE.out hDb HRD.out HDJ.out HF3.out HC9.out HSL.out HT2.out HF.out).drew.drew
              | with_reducible exact strip_rnd rfl HPG.out HPE.out HDR.out HLT.out HA.out HTB.out HE.out hDb HRD.out HDJ.out HF3.out HC9.out HSL.out HT2.out HF.out
          case measure => simp [intOf] <;> omega
      · have hlt' : ¬ (i : Int) < l2 := by omega
        have hil : i = l2 := by omega
        subst hil
        have hb1 : wr.heap[B + 1]? = some (.cells zero9 30 (0, 0)) := blk_fr HF.out (fun h => (HBT.out _ h).2 rfl) (blk_fr HFX.out (by omega) HB1.out)
        have HK1 := Lib.hid hb1
        obtain ⟨⟨x0, x1, x2, x3, x4, x5, x6, x7, x8⟩, _⟩ := block9 HBW.out
        obtain ⟨⟨z0, z1, z2, z3, z4, z5, z6, z7, z8⟩, t0, t1, t2, t3, t4, t5, t6, t7, t8⟩ := block9 hb1
        clear hb1
        go_wp2_with fail
        have hff := put9_fr wr (B + 1) (.int .i64 gh.k) (.string gh.nm) (.int .i64 gh.n) (.int .i64 gh.tk) (.int .i64 gh.tn) (.slice o1 l1 c1) (.slice o2 i c2) (.int .i64 gh.fr) (.int .i64 gh.en)
        have hbf := put9_block (a0 := .int .i64 gh.k) (a1 := .string gh.nm) (a2 := .int .i64 gh.n) (a3 := .int .i64 gh.tk) (a4 := .int .i64 gh.tn) (a5 := .slice o1 l1 c1) (a6 := .slice o2 i c2) (a7 := .int .i64 gh.fr) (a8 := .int .i64 gh.en) HK1.out
        change bodyPost _ _ _ _ _ (put9 wr (B + 1) (.int .i64 gh.k) (.string gh.nm) (.int .i64 gh.n) (.int .i64 gh.tk) (.int .i64 gh.tn) (.slice o1 l1 c1) (.slice o2 i c2) (.int .i64 gh.fr) (.int .i64 gh.en))
        clear x0 x1 x2 x3 x4 x5 x6 x7 x8 z0 z1 z2 z3 z4 z5 z6 z7 z8 t0 t1 t2 t3 t4 t5 t6 t7 t8
        generalize put9 wr (B + 1) (.int .i64 gh.k) (.string gh.nm) (.int .i64 gh.n) (.int .i64 gh.tk) (.int .i64 gh.tn) (.slice o1 l1 c1) (.slice o2 i c2) (.int .i64 gh.fr) (.int .i64 gh.en) = wf at *
        obtain ⟨⟨x0, x1, x2, x3, x4, x5, x6, x7, x8⟩, _⟩ := block9 hbf
        have HFIN : Hid (StQ R D h ps o1 l1 c1 o2 i c2 w (.returned (.agg #[.int .i64 gh.k, .string gh.nm, .int .i64 gh.n, .int .i64 gh.tk, .int .i64 gh.tn, .slice o1 l1 c1, .slice o2 i c2, .int .i64 gh.fr, .int .i64 gh.en])) wf) := by
          have hB := HB.out
          have hpe : p = stripF ps := by
            have := HPE.out
            rw [To.drop_end ps i (by have := HL.out; omega)] at this
            rw [← this]; show p = p.app .nil; rw [To.app_nil]
          have hTO : TO R wr D o2 i (stripF ps) := by
            refine ⟨by rw [stripF_length]; exact HL.out, hmx, fun h0 => ?_⟩
            obtain ⟨ho, hDb, _, hE, hdj, _⟩ := HBE.out h0
            obtain ⟨htb, ha⟩ := HTI.out h0
            rw [To.drop_end ps i (by have := HL.out; omega), To.app_nil, hpe] at ha
            exact ⟨b9, E, ho, hDb, htb, hE, hdj, ha⟩
          refine ⟨by rw [HGH.out]; rfl, hTO.fr hff (fun k _ hk => ⟨hk, fun e => by have := HRL.out k hk; omega⟩) (fun k hk e => (HBT.out k hk).2 e), ?_⟩
          exact (((HQ0.out.fr).trans' HFX.out (fun k hk h => by omega)).trans HF.out).trans' hff (fun k hk h => by omega)
        clear hff hbf
        refine bodyPost_ret (by simp [results, Tryd.results85, go_sem, x0, x1, x2, x3, x4, x5, x6, x7, x8]; rfl) rfl ?_
        exact HFIN.out
end Sc
end Go.Proofs.YtnfodiedalhlhaaDoor
end
section
/-
  scope.bare: a term copied, its variables numbered, then stripped. Conditions: the term lies in memory as told; there are few.
-/
namespace Go.Proofs.YtnfodiedalhlhaaDoor
open Go.RowKit Go.Shelf
namespace Sc

theorem wk_size {σ : Type} (stp : σ → Nd → List ByteArray → σ) (out : Nd → List ByteArray → Nd) : ∀ (f : To) (bk : Int) (nm : ByteArray) (i : Nat) (s : σ) (e : List ByteArray), (wk stp out bk nm i s e f).2.size = f.size
  | .nil, _, _, _, _, _ => rfl
  | .cons h ps r, bk, nm, i, s, e => by
    rw [wk_cons]
    simp only [To.size]
    rw [wk_size stp out r]
    have : (wk1 stp out s (envOf bk nm i e) h ps).2.2.size = ps.size := by
      unfold wk1; split
      · rfl
      · exact wk_size stp out ps _ _ _ _ _
    rw [this]
theorem wk1_size {σ : Type} (stp : σ → Nd → List ByteArray → σ) (out : Nd → List ByteArray → Nd) (s : σ) (e : List ByteArray) (h : Nd) (ps : To) : (wk1 stp out s e h ps).2.2.size = ps.size := by
  unfold wk1; split
  · rfl
  · exact wk_size stp out ps _ _ _ _ _
def barH (h : Nd) (ps : To) : Nd := (wk1 (fun (s : Unit) _ _ => s) brO () [] h ps).2.1
def barP (h : Nd) (ps : To) : To := (wk1 (fun (s : Unit) _ _ => s) brO () [] h ps).2.2
theorem barH_tp (h : Nd) (ps : To) : (barH h ps).tp = h.tp := wk1_tp _ _ brO_tp _ _ _ _
theorem eg_bare : ∀ args w, (callFunc 86 args).run Tryd.prog w = .ok (.enter 86 args) w := enters_of Tryd.func86 (by kernel_rfl) rfl
/-- a copy -/
def TcQ (h : Nd) (ps : To) (l1 l2 n0 : Nat) (W : World) (x : Ending) (w1 : World) : Prop := ∃ q1 e1 q2 e2, x = .returned (tmv h q1 l1 e1 q2 l2 e2) ∧ (SlcIn (fun b => n0 ≤ b) w1 q1 l1 h.tp ∧ TSlc (fun b => n0 ≤ b) w1 q2 l2 ps) ∧ Quiet0 W w1
/-- the walk's row: in new memory, its arrays apart -/
def BwQ (n0 : Nat) (g : Nd) (gs : To) (q1 : Option Addr) (l1 e1 l2 : Nat) (W : World) (x : Ending) (w2 : World) : Prop := ∃ (r2 : Option Addr) (f2 : Nat) (R2 E : Nat → Prop), x = .returned (tmv g q1 l1 e1 r2 l2 f2) ∧ SlcIn R2 w2 q1 l1 g.tp ∧ TO R2 w2 E r2 l2 gs ∧ (∀ k, E k → n0 ≤ k ∧ k < w2.heap.size ∧ ¬ R2 k) ∧ (∀ k, R2 k → n0 ≤ k ∧ k < w2.heap.size) ∧ Quiet0 W w2
/-- stripped -/
def BsQ (n0 : Nat) (g : Nd) (gs : To) (q1 : Option Addr) (l1 e1 : Nat) (r2 : Option Addr) (l2 f2 : Nat) (W : World) (x : Ending) (w3 : World) : Prop := x = .returned (tmv g q1 l1 e1 r2 l2 f2) ∧ (SlcIn (fun b => n0 ≤ b) w3 q1 l1 g.tp ∧ TSlc (fun b => n0 ≤ b) w3 r2 l2 gs) ∧ Fr (fun k => n0 ≤ k) W w3
theorem bare_walk (h : Nd) (ps : To) (hz : ps.size ≤ 100000) (hv : varOk h ps) (hav : allV ps) (n0 : Nat) (w1 W : World) (q1 : Option Addr) (l1 e1 : Nat) (q2 : Option Addr) (l2 e2 : Nat) (g1 : SlcIn (fun b => n0 ≤ b) w1 q1 l1 h.tp) (g2 : TSlc (fun b => n0 ≤ b) w1 q2 l2 ps) (hn : n0 ≤ w1.heap.size) (hq : Quiet0 w1 W) :
    Calls Tryd.prog 71 #[tmv h q1 l1 e1 q2 l2 e2, .slice none 0 0, .func (.func 86) #[] #[]] W (BwQ n0 (barH h ps) (barP h ps) q1 l1 e1 l2 W) := by
  have hc := walkT_any (F := 86) (lb := #[]) (R := fun k => n0 ≤ k ∧ k < W.heap.size) (L0 := W.heap.size) eg_bare (bareDo_any _ _) (fun k hk => hk.2) brO_tp h ps 0 () (fun _ => False) W (fun _ => False) [] q1 l1 e1 q2 l2 e2 none 0 0 ⟨Nat.le_refl _, fun _ h => h⟩ (NmIn.nil _ _ _) (Nat.le_refl _) (fun _ h => h.elim) (by omega) ((g1.stay hq).mono (fun k hk h => ⟨h, hk⟩)) ((g2.stay hq).mono (fun k hk h => ⟨h, hk⟩)) hv hav
  refine hc.mono ?_
  rintro x w2 ⟨r2, f2, D2, E2, rfl, hj, hto, hE, hf, _⟩
  have hq2 : Quiet0 W w2 := hf
  have hqs := hq.size
  refine ⟨r2, f2, _, E2, rfl, ?_, hto, fun k hk => ?_, fun k hk => ⟨hk.1, Nat.lt_of_lt_of_le hk.2 hq2.size⟩, hq2⟩
  · show SlcIn _ _ _ _ (barH h ps).tp
    rw [barH_tp]
    exact ((g1.stay hq).mono (T := fun k => n0 ≤ k ∧ k < W.heap.size) (fun k hk h => ⟨h, hk⟩)).stay hq2
  · have := hE k hk
    exact ⟨by omega, this.2.1, fun h => by omega⟩
theorem bare_strip (g : Nd) (gs : To) (hz : gs.size ≤ 100000) (n0 fb : Nat) (w2 W : World) (q1 : Option Addr) (l1 e1 : Nat) (r2 : Option Addr) (l2 f2 : Nat) (R2 E : Nat → Prop) (hs : SlcIn R2 w2 q1 l1 g.tp) (ht : TO R2 w2 E r2 l2 gs) (hE : ∀ k, E k → n0 ≤ k ∧ k < w2.heap.size ∧ ¬ R2 k) (hR : ∀ k, R2 k → n0 ≤ k ∧ k < w2.heap.size) (hb : FBox w2 fb) (hfb : fb < n0) (hq : Quiet0 w2 W) :
    Calls Tryd.prog 85 #[tmv g q1 l1 e1 r2 l2 f2, .pointer (some ⟨fb, 0, none⟩)] W (BsQ n0 (stripH g) (stripF gs) q1 l1 e1 r2 l2 f2 W) := by
  have hqs := hq.size
  refine (strip_any g gs W R2 E fb q1 l1 e1 r2 l2 f2 (hs.stay hq) (ht.stay hq) (blk_after hq hb) (fun h => by have := hE _ h; omega) (fun k hk h => (hE k h).2.2 hk) (fun k hk => by have := hE k hk; omega) (fun k hk => by have := hR k hk; omega) hz).mono ?_
  rintro x w3 ⟨rfl, hto, hf⟩
  refine ⟨rfl, ⟨?_, hto.tslc (fun k _ hk => (hR k hk).1) (fun k hk => (hE k hk).1)⟩, hf.mono (fun k _ hk => (hE k hk).1)⟩
  exact (hs.stay hq).fr hf (fun k _ hk => ⟨(hR k hk).1, fun h => (hE k h).2.2 hk⟩)
theorem bare_fin {w W0 w3 : World} {B l1 e1 l2 f2 : Nat} {g : Nd} {gs : To} {q1 r2 : Option Addr} (h0 : w.heap.size = B) (hz : W0.heap.size = B + 3) (hq : Quiet0 w W0) (hf : Fr (fun k => B + 3 ≤ k) W0 w3) (h1 : SlcIn (fun b => B + 3 ≤ b) w3 q1 l1 g.tp) (h2 : TSlc (fun b => B + 3 ≤ b) w3 r2 l2 gs) :
    TmQ w g gs (.returned (.agg #[.int .i64 g.k, .string g.nm, .int .i64 g.n, .int .i64 g.tk, .int .i64 g.tn, .slice q1 l1 e1, .slice r2 l2 f2, .int .i64 g.fr, .int .i64 g.en])) (put9 w3 (B + 1) (.int .i64 g.k) (.string g.nm) (.int .i64 g.n) (.int .i64 g.tk) (.int .i64 g.tn) (.slice q1 l1 e1) (.slice r2 l2 f2) (.int .i64 g.fr) (.int .i64 g.en)) := by
  have hff := put9_fr w3 (B + 1) (.int .i64 g.k) (.string g.nm) (.int .i64 g.n) (.int .i64 g.tk) (.int .i64 g.tn) (.slice q1 l1 e1) (.slice r2 l2 f2) (.int .i64 g.fr) (.int .i64 g.en)
  have key : ∀ k, B + 3 ≤ k → w.heap.size ≤ k ∧ ¬ k = B + 1 := fun k hk => by omega
  exact ⟨q1, l1, e1, r2, l2, f2, rfl, h1.fr hff (fun k _ hk => key k hk), h2.fr hff (fun k _ hk => key k hk), (hq.trans' hf (fun k hk h => by omega)).trans' hff (fun k hk h => by omega)⟩
theorem TmQ.drew {w : World} {g : Nd} {gs : To} {x : Ending} {w' : World} (h : TmQ w g gs x w') : TmQ w g gs x w'.drew := by
  obtain ⟨o1, l1, c1, o2, l2, c2, hx, h1, h2, h3⟩ := h
  exact ⟨o1, l1, c1, o2, l2, c2, hx, h1.stay (Quiet0.drew _), h2.stay (Quiet0.drew _), h3.trans (Quiet0.drew _)⟩
set_option maxRecDepth 100000 in
set_option maxHeartbeats 4000000 in
theorem bare_any (h : Nd) (ps : To) (w : World) (R : Nat → Prop) (o1 : Option Addr) (l1 c1 : Nat) (o2 : Option Addr) (l2 c2 : Nat) (hs1 : SlcIn R w o1 l1 h.tp) (hs : TSlc R w o2 l2 ps) (hz : ps.size ≤ 100000) (hv : varOk h ps) (hav : allV ps) (ht : h.tp.size ≤ 1000000) (hat : allT (fun h => h.tp.size ≤ 1000000) ps) :
    Calls Tryd.prog 50 #[tmv h o1 l1 c1 o2 l2 c2] w (TmQ w (stripH (barH h ps)) (stripF (barP h ps))) := by
  have hgz : (barP h ps).size ≤ 100000 := by unfold barP; rw [wk1_size]; exact hz
  have HW := Lib.hid (bare_walk h ps hz hv hav)
  have HS := Lib.hid (bare_strip (barH h ps) (barP h ps) hgz)
  clear hgz
  generalize barH h ps = g0 at *
  generalize barP h ps = gs0 at *
  generalize stripH g0 = g at *
  generalize stripF gs0 = gs at *
  obtain ⟨W0, hW0⟩ : ∃ W0, W0 = ((w.alloc (.cells (cells9 h o1 l1 c1 o2 l2 c2) 30)).alloc (.cells zero9 30)).alloc (.cells #[.func (.func 85) #[] #[.pointer (some ⟨w.heap.size + 2, 0, none⟩)]] 64) := ⟨_, rfl⟩
  have HQ0 : Hid (Quiet0 w W0) := by rw [hW0]; exact ((Quiet0.alloc _ _).trans (Quiet0.alloc _ _)).trans (Quiet0.alloc _ _)
  have HB0 : Hid (W0.heap[w.heap.size]? = some (.cells (cells9 h o1 l1 c1 o2 l2 c2) 30 (0, 0))) := by
    show _ = _; rw [hW0, Below.heap_alloc _ _ _ (by simp; omega), Below.heap_alloc _ _ _ (by simp)]; exact heap_alloc_new w _
  have HB1 : Hid (W0.heap[w.heap.size + 1]? = some (.cells zero9 30 (0, 0))) := by
    show _ = _; rw [hW0, Below.heap_alloc _ _ _ (by simp)]
    have := heap_alloc_new (w.alloc (.cells (cells9 h o1 l1 c1 o2 l2 c2) 30)) (.cells zero9 30)
    simpa using this
  have HB2 : Hid (FBox W0 (w.heap.size + 2)) := by
    show W0.heap[w.heap.size + 2]? = _; rw [hW0]
    have := heap_alloc_new ((w.alloc (.cells (cells9 h o1 l1 c1 o2 l2 c2) 30)).alloc (.cells zero9 30)) (.cells #[.func (.func 85) #[] #[.pointer (some ⟨w.heap.size + 2, 0, none⟩)]] 64)
    simpa using this
  have HZ : Hid (W0.heap.size = w.heap.size + 3) := by show _ = _; rw [hW0]; simp
  have HC : Hid (∀ W, Quiet0 W0 W → Calls Tryd.prog 51 #[tmv h o1 l1 c1 o2 l2 c2] W (TcQ h ps l1 l2 (w.heap.size + 3) W)) := fun W hq => by
    have hzz := HZ.out
    have hqs := hq.size
    refine (copyT_any h ps W R o1 l1 c1 o2 l2 c2 (hs1.stay (HQ0.out.trans hq)) (hs.stay (HQ0.out.trans hq)) ht hat (by omega)).mono ?_
    rintro x w1 ⟨q1, e1, q2, e2, rfl, hk1, hk2, hq1⟩
    have hn : w.heap.size + 3 ≤ W.heap.size := by omega
    exact ⟨q1, e1, q2, e2, rfl, ⟨hk1.mono (fun k _ hk => Nat.le_trans hn hk), hk2.mono (fun k _ hk => Nat.le_trans hn hk)⟩, hq1⟩
  clear hs1 hs hz hv hav ht hat
  unfold tmv at HC HW HS
  unfold tmv
  go_enter Tryd.func50, Tryd.ntmps50
  go_upto_region 3 with fail
  change Code.wp _ _ _ _ (((w.alloc (.cells (cells9 h o1 l1 c1 o2 l2 c2) 30)).alloc (.cells zero9 30)).alloc (.cells #[.func (.func 85) #[] #[.pointer (some ⟨w.heap.size + 2, 0, none⟩)]] 64))
  rw [← hW0]
  clear hW0
  have e2 : w.heap.size + 1 + 1 = w.heap.size + 2 := rfl
  rw [e2]
  clear e2
  generalize hB : w.heap.size = B at *
  have HBE := Lib.hid hB
  clear hB
  have HF0 : Hid (∀ W, Fr (fun k => B + 3 ≤ k) W0 W → Cells9 W B 0 h o1 l1 c1 o2 l2 c2 ∧ FBox W (B + 2) ∧ W.heap[B + 1]? = some (.cells zero9 30 (0, 0))) := fun W hq => ⟨(cells9_block HB0.out).fr hq (by omega), blk_fr hq (by omega) HB2.out, blk_fr hq (by omega) HB1.out⟩
  obtain ⟨⟨a0, a1, a2, a3, a4, a5, a6, a7, a8⟩, hfb, _⟩ := HF0.out W0 (Fr.refl _ _)
  have f0 := cell_of_one hfb
  clear hfb
  have hqc := Quiet0.refl W0
  go_region_law (first
    | (go_simp; go_at_call 51; (with_reducible refine Calls.mono (HC.out _ ?hq) ?_); (case hq => (repeat (first | with_reducible exact hqc | with_reducible exact Quiet0.refl _ | with_reducible refine Quiet0.trans ?_ (Quiet0.alloc _ _) | with_reducible refine Quiet0.trans ?_ (Quiet0.drew _) | fail))); rintro x w1 ⟨q1, e1, q2, e2, rfl, hk, hq1⟩; have HK := Lib.hid hk; have hqw : Quiet0 W0 w1 := Quiet0.trans (by (repeat (first | with_reducible exact hqc | with_reducible exact Quiet0.refl _ | with_reducible refine Quiet0.trans ?_ (Quiet0.alloc _ _) | with_reducible refine Quiet0.trans ?_ (Quiet0.drew _) | fail))) hq1; have HQ1 := Lib.hid hqw; have HN1 : Hid (B + 3 ≤ w1.heap.size) := Nat.le_trans (Nat.le_of_eq HZ.out.symm) (Fr.size hqw); have f1 := cell_of_one (HF0.out w1 hqw.fr).2.1; unfold tmv; clear hqw hk hq1)
    | (go_simp; go_at_call 71; (with_reducible refine Calls.mono (HW.out (B + 3) w1 _ q1 l1 e1 q2 l2 e2 HK.out.1 HK.out.2 HN1.out ?hq0) ?_); (case hq0 => (repeat (first | with_reducible exact Quiet0.refl _ | with_reducible refine Quiet0.trans ?_ (Quiet0.alloc _ _) | with_reducible refine Quiet0.trans ?_ (Quiet0.drew _) | fail))); rintro x w2 ⟨r2, f2, R2, E, rfl, hk1, hk2, hk3, hk4, hq2⟩; have hqw : Quiet0 W0 w2 := Quiet0.trans (Quiet0.trans HQ1.out (by (repeat (first | with_reducible exact Quiet0.refl _ | with_reducible refine Quiet0.trans ?_ (Quiet0.alloc _ _) | with_reducible refine Quiet0.trans ?_ (Quiet0.drew _) | fail)))) hq2; have HQ2 := Lib.hid hqw; have HG := Lib.hid (fun W hq => HS.out (B + 3) (B + 2) w2 W q1 l1 e1 r2 l2 f2 R2 E hk1 hk2 hk3 hk4 (HF0.out w2 hqw.fr).2.1 (by omega) hq); have v0 := cell_of_one (HF0.out w2 hqw.fr).2.1; unfold tmv; clear hqw hk1 hk2 hk3 hk4 hq2)
    | (go_simp; go_at_call 85; (with_reducible refine Calls.mono (HG.out _ ?hq0) ?_); (case hq0 => (repeat (first | with_reducible exact Quiet0.refl _ | with_reducible refine Quiet0.trans ?_ (Quiet0.alloc _ _) | with_reducible refine Quiet0.trans ?_ (Quiet0.drew _) | fail))); rintro x w3 ⟨rfl, hk, hf3⟩; have hfw : Fr (fun k => B + 3 ≤ k) W0 w3 := Fr.trans (Quiet0.fr (Quiet0.trans HQ2.out (by (repeat (first | with_reducible exact Quiet0.refl _ | with_reducible refine Quiet0.trans ?_ (Quiet0.alloc _ _) | with_reducible refine Quiet0.trans ?_ (Quiet0.drew _) | fail))))) hf3; have HK3 := Lib.hid hk; have HF3 := Lib.hid hfw; have HB3 := Lib.hid (HF0.out w3 hfw).2.2; unfold tmv; obtain ⟨⟨z0, z1, z2, z3, z4, z5, z6, z7, z8⟩, t0, t1, t2, t3, t4, t5, t6, t7, t8⟩ := block9 HB3.out; clear hk hf3 hfw)
    | fail)
  all_goals
    go_wp2_with fail
    have hbf := put9_block (a0 := .int .i64 g.k) (a1 := .string g.nm) (a2 := .int .i64 g.n) (a3 := .int .i64 g.tk) (a4 := .int .i64 g.tn) (a5 := .slice q1 l1 e1) (a6 := .slice r2 l2 f2) (a7 := .int .i64 g.fr) (a8 := .int .i64 g.en) HB3.out
    have HFIN := Lib.hid (bare_fin (g := g) (gs := gs) (l1 := l1) (l2 := l2) (e1 := e1) (f2 := f2) (q1 := q1) (r2 := r2) HBE.out HZ.out HQ0.out HF3.out HK3.out.1 HK3.out.2)
    clear z0 z1 z2 z3 z4 z5 z6 z7 z8 t0 t1 t2 t3 t4 t5 t6 t7 t8
    first
      | with_reducible change bodyPost _ _ _ _ _ (put9 w3 (B + 1) (.int .i64 g.k) (.string g.nm) (.int .i64 g.n) (.int .i64 g.tk) (.int .i64 g.tn) (.slice q1 l1 e1) (.slice r2 l2 f2) (.int .i64 g.fr) (.int .i64 g.en))
      | with_reducible change bodyPost _ _ _ _ _ (put9 w3 (B + 1) (.int .i64 g.k) (.string g.nm) (.int .i64 g.n) (.int .i64 g.tk) (.int .i64 g.tn) (.slice q1 l1 e1) (.slice r2 l2 f2) (.int .i64 g.fr) (.int .i64 g.en)).drew
      | change bodyPost _ _ _ _ _ (put9 w3 (B + 1) (.int .i64 g.k) (.string g.nm) (.int .i64 g.n) (.int .i64 g.tk) (.int .i64 g.tn) (.slice q1 l1 e1) (.slice r2 l2 f2) (.int .i64 g.fr) (.int .i64 g.en))
    generalize put9 w3 (B + 1) (.int .i64 g.k) (.string g.nm) (.int .i64 g.n) (.int .i64 g.tk) (.int .i64 g.tn) (.slice q1 l1 e1) (.slice r2 l2 f2) (.int .i64 g.fr) (.int .i64 g.en) = wf at *
    obtain ⟨⟨x0, x1, x2, x3, x4, x5, x6, x7, x8⟩, _⟩ := block9 hbf
    clear hbf
    first
      | (refine bodyPost_ret (by simp [results, Tryd.results50, go_sem, x0, x1, x2, x3, x4, x5, x6, x7, x8]; rfl) rfl ?_; exact HFIN.out)
      | (refine bodyPost_ret (by simp [results, Tryd.results50, go_sem, x0, x1, x2, x3, x4, x5, x6, x7, x8]; rfl) rfl ?_; exact HFIN.out.drew)
end Sc
end Go.Proofs.YtnfodiedalhlhaaDoor
end
section
/-
  The program's Same and Equal on terms, with slices.EqualFunc. Condition: the terms lie in memory as told.
-/
namespace Go.Proofs.YtnfodiedalhlhaaDoor
open Go.RowKit Go.Shelf

def PSameT (all : Bool) (g : Nat) (a : Nd) (p : To) : Prop := ∀ (b : Nd) (q : To) (w : World) (o1 : Option Addr) (l1 c1 : Nat) (o2 : Option Addr) (l2 c2 : Nat) (p1 : Option Addr) (m1 d1 : Nat) (p2 : Option Addr) (m2 d2 : Nat) (R : Nat → Prop),
  SlcIn R w o1 l1 a.tp → TSlc R w o2 l2 p → SlcIn R w p1 m1 b.tp → TSlc R w p2 m2 q →
  Calls Tryd.prog g #[tmv a o1 l1 c1 o2 l2 c2, tmv b p1 m1 d1 p2 m2 d2] w fun e w' => e = .returned (.bool (alikeT all a p b q)) ∧ Quiet0 w w'
set_option maxRecDepth 100000 in
set_option maxHeartbeats 2000000 in
theorem equalFuncT_any (all : Bool) (g : Nat) (eg : ∀ args w, (callFunc g args).run Tryd.prog w = .ok (.enter g args) w) (ps ps' : To) (ih : ∀ i h qs, ps.get i = some (h, qs) → PSameT all g h qs) (w : World) (R : Nat → Prop) (o : Option Addr) (len cap : Nat) (o' : Option Addr) (len' cap' : Nat) (hs : TSlc R w o len ps) (hs' : TSlc R w o' len' ps') :
    Calls Tryd.prog 84 #[.slice o len cap, .slice o' len' cap', .func (.func g) #[] #[]] w fun e w' => e = .returned (.bool (ps.alike (headB all) ps')) ∧ Quiet0 w w' := by
  have HS := Lib.hid hs
  have HS' := Lib.hid hs'
  have IH := Lib.hid ih
  have HL := Lib.hid hs.1
  have HL' := Lib.hid hs'.1
  have hmx := hs.2.1
  unfold maxLen at hmx
  clear hs hs' ih
  obtain ⟨res, hres⟩ : ∃ res, res = ps.alike (headB all) ps' := ⟨_, rfl⟩
  have HRES := Lib.hid hres
  rw [← hres]
  clear hres
  by_cases hlen : len = len'
  · subst hlen
    have b3 : ((len : Int) != (len : Int)) = false := by simp
    go_enter Tryd.func84, Tryd.ntmps84
    go_wp2_with fail
    go_loopw [17] (fun t wr => ∃ (i : Nat), t = .int .i64 i ∧ i ≤ len ∧ res = (ps.drop i).alike (headB all) (ps'.drop i) ∧ Quiet0 w wr) (fun t _ => len - (intOf t).toNat)
    case atStart => exact ⟨0, rfl, Nat.zero_le _, by rw [To.drop_zero, To.drop_zero]; exact HRES.out, Quiet0.refl _⟩
    case round =>
      obtain ⟨i, rfl, hi, hr, hq⟩ := hrel
      have HR := Lib.hid hr
      have HQ := Lib.hid hq
      clear hr hq
      by_cases hlt : i < len
      · have hlt' : (i : Int) < len := by omega
        obtain ⟨b, off, h1, qs1, o1, l1, c1, o2, l2, c2, rfl, hd1, hg1, hR1, ⟨e0, e1, e2, e3, e4, e5, e6, e7, e8⟩, hs1, ht1⟩ := (HS.out.stay HQ.out).nth hlt
        obtain ⟨b2, off2, h2, qs2, p1, m1, d1, p2, m2, d2, rfl, hd2, hg2, hR2, ⟨f0, f1, f2, f3, f4, f5, f6, f7, f8⟩, hs2, ht2⟩ := (HS'.out.stay HQ.out).nth hlt
        have hbl := World.block_lt_of_cell? _ _ e0
        have hbl2 := World.block_lt_of_cell? _ _ f0
        have HC := Lib.hid (fun (W : World) (hq : Quiet0 wr W) => IH.out i h1 qs1 hg1 h2 qs2 W o1 l1 c1 o2 l2 c2 p1 m1 d1 p2 m2 d2 R (hs1.stay hq) (ht1.stay hq) (hs2.stay hq) (ht2.stay hq))
        have HN : Hid (res = (alikeT all h1 qs1 h2 qs2 && (ps.drop (i + 1)).alike (headB all) (ps'.drop (i + 1)))) := by
          show _ = _
          rw [HR.out, hd1, hd2, alike_cons]
        unfold tmv at HC
        clear hd1 hg1 hs1 ht1 hd2 hg2 hs2 ht2
        cases hb : alikeT all h1 qs1 h2 qs2
        all_goals
          have HBV := Lib.hid hb
          rw [hb] at HC
          clear hb
          go_wp2_with fail
          refine (HC.out _ ((Quiet0.alloc _ _).trans (Quiet0.alloc _ _))).mono ?_; rintro e w1 ⟨rfl, hq1⟩
          have HQ1 := Lib.hid (HQ.out.trans (((Quiet0.alloc _ _).trans (Quiet0.alloc _ _)).trans hq1))
          clear hq1
          go_wp2_with fail
        · go_ret
          exact ⟨by rw [HN.out, HBV.out]; rfl, HQ1.out⟩
        · go_roundw
          case rel => exact ⟨i + 1, by go_num, by omega, by rw [HN.out, HBV.out]; rfl, HQ1.out⟩
          case measure => simp [intOf]; omega
      · have hlt' : ¬ (i : Int) < len := by omega
        have HY : Hid (res = true) := by
          show _ = _
          rw [HR.out, To.drop_end ps i (by have := HL.out; omega), To.drop_end ps' i (by have := HL'.out; omega)]; rfl
        go_wp2_with fail
        go_ret
        exact ⟨by rw [HY.out]; rfl, HQ.out⟩
  · have HF : Hid (res = false) := by
      show _ = _
      rw [HRES.out]
      cases h : ps.alike (headB all) ps'
      · rfl
      · exact absurd (To.alike_length _ _ _ h) (by have := HL.out; have := HL'.out; omega)
    have b3 : ((len : Int) != (len' : Int)) = true := by simp; omega
    go_enter Tryd.func84, Tryd.ntmps84
    go_wp2_with fail
    go_ret
    exact ⟨by rw [HF.out]; rfl, Quiet0.refl _⟩
theorem eg_equalT : ∀ args w, (callFunc 49 args).run Tryd.prog w = .ok (.enter 49 args) w := enters_of Tryd.func49 (by kernel_rfl) rfl
end Go.Proofs.YtnfodiedalhlhaaDoor
end
section
/-
  The program's Equal on terms. Condition: the terms lie in memory as told.
-/
namespace Go.Proofs.YtnfodiedalhlhaaDoor
open Go.RowKit Go.Shelf

set_option maxRecDepth 100000 in
set_option maxHeartbeats 4000000 in
theorem equalTm_any (a : Nd) (p : To) : PSameT true 49 a p := by
  refine To.ind' (T := PSameT true 49) ?_ a p
  intro a p ih b q w o1 l1 c1 o2 l2 c2 p1 m1 d1 p2 m2 d2 R h1 h2 h3 h4
  have HC := Lib.hid (fun (W : World) (hq : Quiet0 w W) => same_any a.tk a.tn a.tp b.tk b.tn b.tp W o1 l1 c1 p1 m1 d1 (h1.slc.stay hq) (h3.slc.stay hq))
  have HE := Lib.hid (fun (W : World) (hq : Quiet0 w W) => equalFuncT_any true 49 eg_equalT p q ih W R o2 l2 c2 p2 m2 d2 (h2.stay hq) (h4.stay hq))
  clear h1 h2 h3 h4 ih
  unfold alikeT
  generalize p.alike (headB true) q = r at *
  unfold headB
  unfold tyv at HC
  generalize sameT a.tk a.tn a.tp b.tk b.tn b.tp = sb at *
  obtain ⟨ak, an, aN, atk, atn, atp, af, ae⟩ := a
  obtain ⟨bk, bn, bN, btk, btn, btp, bf, be⟩ := b
  dsimp only at *
  unfold tmv
  dsimp only
  cases hk : (ak == bk)
  · go_enter Tryd.func49, Tryd.ntmps49
    go_wp2_with fail
    go_ret
    exact ⟨rfl, ((Quiet0.alloc _ _).trans (Quiet0.alloc _ _))⟩
  · cases hn : (an.toList == bn.toList)
    · go_enter Tryd.func49, Tryd.ntmps49
      go_wp2_with fail
      go_ret
      exact ⟨rfl, ((Quiet0.alloc _ _).trans (Quiet0.alloc _ _))⟩
    · cases hN : (aN == bN)
      · go_enter Tryd.func49, Tryd.ntmps49
        go_wp2_with fail
        go_ret
        exact ⟨rfl, ((Quiet0.alloc _ _).trans (Quiet0.alloc _ _))⟩
      · cases hf : (af == bf)
        · go_enter Tryd.func49, Tryd.ntmps49
          go_wp2_with fail
          go_ret
          exact ⟨rfl, ((Quiet0.alloc _ _).trans (Quiet0.alloc _ _))⟩
        · cases he : (ae == be)
          · go_enter Tryd.func49, Tryd.ntmps49
            go_wp2_with fail
            go_ret
            exact ⟨rfl, ((Quiet0.alloc _ _).trans (Quiet0.alloc _ _))⟩
          · cases sb
            · go_enter Tryd.func49, Tryd.ntmps49
              go_wp2_with fail
              refine (HC.out _ ((Quiet0.alloc _ _).trans (Quiet0.alloc _ _))).mono ?_; rintro e w1 ⟨rfl, hq1⟩
              go_wp2_with fail
              go_ret
              exact ⟨by simp, ((Quiet0.alloc _ _).trans (Quiet0.alloc _ _)).trans hq1⟩
            · go_enter Tryd.func49, Tryd.ntmps49
              go_wp2_with fail
              refine (HC.out _ ((Quiet0.alloc _ _).trans (Quiet0.alloc _ _))).mono ?_; rintro e w1 ⟨rfl, hq1⟩
              obtain ⟨⟨a0, a1, a2, a3, a4, a5, a6, a7, a8⟩, b0, b1, b2, b3, b4, b5, b6, b7, b8⟩ := box92 w ⟨ak, an, aN, atk, atn, atp, af, ae⟩ o1 l1 c1 o2 l2 c2 ⟨bk, bn, bN, btk, btn, btp, bf, be⟩ p1 m1 d1 p2 m2 d2 _ _ hq1
              have HQ1 := Lib.hid (((Quiet0.alloc _ _).trans (Quiet0.alloc _ _)).trans hq1)
              clear hq1
              dsimp only at *
              go_wp2_with fail
              refine (HE.out _ HQ1.out).mono ?_; rintro e w2 ⟨rfl, hq2⟩
              go_wp2_with fail
              go_ret
              exact ⟨by simp, HQ1.out.trans hq2⟩
end Go.Proofs.YtnfodiedalhlhaaDoor
end
section
/-
  scope.Alike. Conditions: the terms lie in memory as told; there are few; the table of blanks holds what its initialiser lays.
-/
namespace Go.Proofs.YtnfodiedalhlhaaDoor
open Go.RowKit Go.Shelf
namespace Sc

/-- a term's parts lie in memory -/
def TmRdy (W : World) (g : Nd) (gs : To) (o1 : Option Addr) (l1 : Nat) (o2 : Option Addr) (l2 : Nat) : Prop := SlcIn (fun _ => True) W o1 l1 g.tp ∧ TSlc (fun _ => True) W o2 l2 gs
theorem TmRdy.stay {w W : World} {g : Nd} {gs : To} {o1 : Option Addr} {l1 : Nat} {o2 : Option Addr} {l2 : Nat} (h : TmRdy w g gs o1 l1 o2 l2) (hq : Quiet0 w W) : TmRdy W g gs o1 l1 o2 l2 := ⟨h.1.stay hq, h.2.stay hq⟩
theorem with_tm {w W w3 : World} {g : Nd} {gs : To} {o1 : Option Addr} {l1 : Nat} {o2 : Option Addr} {l2 : Nat} {G : Prop} (h : TmRdy w g gs o1 l1 o2 l2) (hq : Quiet0 w W) (hqx : Quiet0 W w3) (k : TmRdy w3 g gs o1 l1 o2 l2 → G) : G := k (h.stay (hq.trans hqx))
def BrQ (w : World) (g : Nd) (gs : To) (x : Ending) (w' : World) : Prop := ∃ o1 l1 c1 o2 l2 c2, x = .returned (tmv g o1 l1 c1 o2 l2 c2) ∧ TmRdy w' g gs o1 l1 o2 l2 ∧ Quiet0 w w'
def bareN (h : Nd) (ps : To) : Nd := stripH (barH h ps)
def bareT (h : Nd) (ps : To) : To := stripF (barP h ps)
def alkB (h : Nd) (ps : To) (h' : Nd) (ps' : To) : Bool := RT h ps && RT h' ps' && alikeT true (bareN h ps) (bareT h ps) (bareN h' ps') (bareT h' ps')
theorem bare_rdy (h : Nd) (ps : To) (w : World) (R : Nat → Prop) (o1 : Option Addr) (l1 c1 : Nat) (o2 : Option Addr) (l2 c2 : Nat) (hs1 : SlcIn R w o1 l1 h.tp) (hs : TSlc R w o2 l2 ps) (hz : ps.size ≤ 100000) (hg : allT GoodH (.cons h ps .nil)) (hr : RT h ps = true) :
    Calls Tryd.prog 50 #[tmv h o1 l1 c1 o2 l2 c2] w (BrQ w (bareN h ps) (bareT h ps)) := by
  obtain ⟨hv, hok, _⟩ := RT_ok hr
  have hav := okF_allV ps hok
  refine (bare_any h ps w R o1 l1 c1 o2 l2 c2 hs1 hs hz hv hav (by have := hg.1.2.1; omega) (allT_mono (fun h hh => by have := hh.2.1; omega) _ hg.2.1)).mono ?_
  rintro x w' ⟨q1, m1, d1, q2, m2, d2, rfl, h1, h2, h3⟩
  exact ⟨q1, m1, d1, q2, m2, d2, rfl, ⟨h1.mono (fun _ _ _ => trivial), h2.mono (fun _ _ _ => trivial)⟩, h3⟩
set_option maxRecDepth 100000 in
set_option maxHeartbeats 4000000 in
theorem alike8_any (h : Nd) (ps : To) (h' : Nd) (ps' : To) (w : World) (R R' : Nat → Prop) (o1 : Option Addr) (l1 c1 : Nat) (o2 : Option Addr) (l2 c2 : Nat) (p1 : Option Addr) (m1 d1 : Nat) (p2 : Option Addr) (m2 d2 : Nat) (hs1 : SlcIn R w o1 l1 h.tp) (hs : TSlc R w o2 l2 ps) (hz : ps.size ≤ 100000) (hg : allT GoodH (.cons h ps .nil)) (hs1' : SlcIn R' w p1 m1 h'.tp) (hs' : TSlc R' w p2 m2 ps') (hz' : ps'.size ≤ 100000) (hg' : allT GoodH (.cons h' ps' .nil)) (ht : Lx.Spaces w) :
    Calls Tryd.prog 25 #[tmv h o1 l1 c1 o2 l2 c2, tmv h' p1 m1 d1 p2 m2 d2] w fun e w' => e = .returned (.bool (alkB h ps h' ps')) ∧ Quiet0 w w' := by
  obtain ⟨W0, hW0⟩ : ∃ W0, W0 = (w.alloc (.cells (cells9 h o1 l1 c1 o2 l2 c2) 30)).alloc (.cells (cells9 h' p1 m1 d1 p2 m2 d2) 30) := ⟨_, rfl⟩
  have HQ0 : Hid (Quiet0 w W0) := by rw [hW0]; exact (Quiet0.alloc _ _).trans (Quiet0.alloc _ _)
  have HB : Hid (∀ W, Quiet0 W0 W → (W.cell? ⟨w.heap.size, 0, none⟩ = some (.int .i64 h.k) ∧ W.cell? ⟨w.heap.size, 1, none⟩ = some (.string h.nm) ∧ W.cell? ⟨w.heap.size, 2, none⟩ = some (.int .i64 h.n) ∧ W.cell? ⟨w.heap.size, 3, none⟩ = some (.int .i64 h.tk) ∧ W.cell? ⟨w.heap.size, 4, none⟩ = some (.int .i64 h.tn) ∧ W.cell? ⟨w.heap.size, 5, none⟩ = some (.slice o1 l1 c1) ∧ W.cell? ⟨w.heap.size, 6, none⟩ = some (.slice o2 l2 c2) ∧ W.cell? ⟨w.heap.size, 7, none⟩ = some (.int .i64 h.fr) ∧ W.cell? ⟨w.heap.size, 8, none⟩ = some (.int .i64 h.en)) ∧ (W.cell? ⟨w.heap.size + 1, 0, none⟩ = some (.int .i64 h'.k) ∧ W.cell? ⟨w.heap.size + 1, 1, none⟩ = some (.string h'.nm) ∧ W.cell? ⟨w.heap.size + 1, 2, none⟩ = some (.int .i64 h'.n) ∧ W.cell? ⟨w.heap.size + 1, 3, none⟩ = some (.int .i64 h'.tk) ∧ W.cell? ⟨w.heap.size + 1, 4, none⟩ = some (.int .i64 h'.tn) ∧ W.cell? ⟨w.heap.size + 1, 5, none⟩ = some (.slice p1 m1 d1) ∧ W.cell? ⟨w.heap.size + 1, 6, none⟩ = some (.slice p2 m2 d2) ∧ W.cell? ⟨w.heap.size + 1, 7, none⟩ = some (.int .i64 h'.fr) ∧ W.cell? ⟨w.heap.size + 1, 8, none⟩ = some (.int .i64 h'.en))) := by
    intro W hq; rw [hW0] at hq; exact box92 w h o1 l1 c1 o2 l2 c2 h' p1 m1 d1 p2 m2 d2 _ W hq
  have HR : Hid (∀ W, Quiet0 W0 W → Calls Tryd.prog 38 #[tmv h o1 l1 c1 o2 l2 c2] W fun e w' => e = .returned (.bool (RT h ps)) ∧ Quiet0 W w') := fun W hq => rightTm_any h ps W R o1 l1 c1 o2 l2 c2 (hs1.stay (HQ0.out.trans hq)) (hs.stay (HQ0.out.trans hq)) hz hg (ht.stay (HQ0.out.trans hq))
  have HR' : Hid (∀ W, Quiet0 W0 W → Calls Tryd.prog 38 #[tmv h' p1 m1 d1 p2 m2 d2] W fun e w' => e = .returned (.bool (RT h' ps')) ∧ Quiet0 W w') := fun W hq => rightTm_any h' ps' W R' p1 m1 d1 p2 m2 d2 (hs1'.stay (HQ0.out.trans hq)) (hs'.stay (HQ0.out.trans hq)) hz' hg' (ht.stay (HQ0.out.trans hq))
  have HW : Hid (RT h ps = true → ∀ W, Quiet0 W0 W → Calls Tryd.prog 50 #[tmv h o1 l1 c1 o2 l2 c2] W (BrQ W (bareN h ps) (bareT h ps))) := fun hr W hq => bare_rdy h ps W R o1 l1 c1 o2 l2 c2 (hs1.stay (HQ0.out.trans hq)) (hs.stay (HQ0.out.trans hq)) hz hg hr
  have HW' : Hid (RT h' ps' = true → ∀ W, Quiet0 W0 W → Calls Tryd.prog 50 #[tmv h' p1 m1 d1 p2 m2 d2] W (BrQ W (bareN h' ps') (bareT h' ps'))) := fun hr W hq => bare_rdy h' ps' W R' p1 m1 d1 p2 m2 d2 (hs1'.stay (HQ0.out.trans hq)) (hs'.stay (HQ0.out.trans hq)) hz' hg' hr
  have HE : Hid (∀ (W : World) (o1 : Option Addr) (l1 c1 : Nat) (o2 : Option Addr) (l2 c2 : Nat) (p1 : Option Addr) (m1 d1 : Nat) (p2 : Option Addr) (m2 d2 : Nat), TmRdy W (bareN h ps) (bareT h ps) o1 l1 o2 l2 → TmRdy W (bareN h' ps') (bareT h' ps') p1 m1 p2 m2 → Calls Tryd.prog 49 #[tmv (bareN h ps) o1 l1 c1 o2 l2 c2, tmv (bareN h' ps') p1 m1 d1 p2 m2 d2] W fun e w' => e = .returned (.bool (alikeT true (bareN h ps) (bareT h ps) (bareN h' ps') (bareT h' ps'))) ∧ Quiet0 W w') := fun W o1 l1 c1 o2 l2 c2 p1 m1 d1 p2 m2 d2 g1 g2 => equalTm_any _ _ _ _ W o1 l1 c1 o2 l2 c2 p1 m1 d1 p2 m2 d2 _ g1.1 g1.2 g2.1 g2.2
  clear hs1 hs hg hs1' hs' hg' ht hz hz'
  obtain ⟨res, hres⟩ : ∃ res, res = alkB h ps h' ps' := ⟨_, rfl⟩
  have HRES := Lib.hid hres
  rw [← hres]
  clear hres
  unfold tmv at HR HR' HW HW' HE ⊢
  cases hr : RT h ps
  case false =>
    have HF : Hid (res = false) := by show _ = _; rw [HRES.out]; unfold alkB; rw [hr]; rfl
    rw [hr] at HR
    clear hr HW HW' HE HR'
    go_enter Tryd.func25, Tryd.ntmps25
    go_upto_region 1 with fail
    rw [← hW0]
    clear hW0
    generalize hB : w.heap.size = B at *
    clear hB
    have hqc := Quiet0.refl W0
    obtain ⟨⟨a0, a1, a2, a3, a4, a5, a6, a7, a8⟩, b0, b1, b2, b3, b4, b5, b6, b7, b8⟩ := HB.out _ hqc
    go_region_law (first
        | (go_simp; go_at_call 38; (with_reducible refine Calls.mono (HR.out _ ?hq) ?_); (case hq => (repeat (first | with_reducible exact hqc | with_reducible exact Quiet0.refl _ | with_reducible refine Quiet0.trans ?_ (Quiet0.alloc _ _) | with_reducible refine Quiet0.trans ?_ (Quiet0.drew _) | fail))); rintro e wx ⟨rfl, hqx⟩; (refine with_q (w0 := W0) ?hq2 hqx ?_); (case hq2 => (repeat (first | with_reducible exact hqc | with_reducible exact Quiet0.refl _ | with_reducible refine Quiet0.trans ?_ (Quiet0.alloc _ _) | with_reducible refine Quiet0.trans ?_ (Quiet0.drew _) | fail))); intro hqc; obtain ⟨⟨a0, a1, a2, a3, a4, a5, a6, a7, a8⟩, b0, b1, b2, b3, b4, b5, b6, b7, b8⟩ := HB.out _ hqc)
        | fail)
    all_goals
      have HQC : Hid (Quiet0 W0 _) := hqc
      clear hqc
      go_wp2_with fail
      go_ret
      exact ⟨by rw [HF.out]; rfl, HQ0.out.trans HQC.out⟩
  case true =>
    cases hr' : RT h' ps'
    case false =>
      have HF : Hid (res = false) := by show _ = _; rw [HRES.out]; unfold alkB; rw [hr, hr']; rfl
      rw [hr] at HR
      rw [hr'] at HR'
      clear hr hr' HW HW' HE
      go_enter Tryd.func25, Tryd.ntmps25
      go_upto_region 1 with fail
      rw [← hW0]
      clear hW0
      generalize hB : w.heap.size = B at *
      clear hB
      have hqc := Quiet0.refl W0
      obtain ⟨⟨a0, a1, a2, a3, a4, a5, a6, a7, a8⟩, b0, b1, b2, b3, b4, b5, b6, b7, b8⟩ := HB.out _ hqc
      go_region_law (first
          | (go_simp; go_at_call 38; (with_reducible refine Calls.mono (HR.out _ ?hq) ?_); (case hq => (repeat (first | with_reducible exact hqc | with_reducible exact Quiet0.refl _ | with_reducible refine Quiet0.trans ?_ (Quiet0.alloc _ _) | with_reducible refine Quiet0.trans ?_ (Quiet0.drew _) | fail))); rintro e wx ⟨rfl, hqx⟩; (refine with_q (w0 := W0) ?hq2 hqx ?_); (case hq2 => (repeat (first | with_reducible exact hqc | with_reducible exact Quiet0.refl _ | with_reducible refine Quiet0.trans ?_ (Quiet0.alloc _ _) | with_reducible refine Quiet0.trans ?_ (Quiet0.drew _) | fail))); intro hqc; obtain ⟨⟨a0, a1, a2, a3, a4, a5, a6, a7, a8⟩, b0, b1, b2, b3, b4, b5, b6, b7, b8⟩ := HB.out _ hqc)
          | (go_simp; go_at_call 38; (with_reducible refine Calls.mono (HR'.out _ ?hq) ?_); (case hq => (repeat (first | with_reducible exact hqc | with_reducible exact Quiet0.refl _ | with_reducible refine Quiet0.trans ?_ (Quiet0.alloc _ _) | with_reducible refine Quiet0.trans ?_ (Quiet0.drew _) | fail))); rintro e wx ⟨rfl, hqx⟩; (refine with_q (w0 := W0) ?hq2 hqx ?_); (case hq2 => (repeat (first | with_reducible exact hqc | with_reducible exact Quiet0.refl _ | with_reducible refine Quiet0.trans ?_ (Quiet0.alloc _ _) | with_reducible refine Quiet0.trans ?_ (Quiet0.drew _) | fail))); intro hqc; obtain ⟨⟨a0, a1, a2, a3, a4, a5, a6, a7, a8⟩, b0, b1, b2, b3, b4, b5, b6, b7, b8⟩ := HB.out _ hqc)
          | fail)
      all_goals
        have HQC : Hid (Quiet0 W0 _) := hqc
        clear hqc
        go_wp2_with fail
        go_ret
        exact ⟨by rw [HF.out]; rfl, HQ0.out.trans HQC.out⟩
    case true =>
      have HF : Hid (res = alikeT true (bareN h ps) (bareT h ps) (bareN h' ps') (bareT h' ps')) := by show _ = _; rw [HRES.out]; unfold alkB; rw [hr, hr']; rfl
      have HV := Lib.hid (HW.out hr)
      have HV' := Lib.hid (HW'.out hr')
      rw [hr] at HR
      rw [hr'] at HR'
      clear hr hr' HW HW'
      generalize alikeT true (bareN h ps) (bareT h ps) (bareN h' ps') (bareT h' ps') = rb at *
      generalize bareN h ps = g at *
      generalize bareT h ps = gs at *
      generalize bareN h' ps' = g' at *
      generalize bareT h' ps' = gs' at *
      go_enter Tryd.func25, Tryd.ntmps25
      go_upto_region 1 with fail
      rw [← hW0]
      clear hW0
      generalize hB : w.heap.size = B at *
      clear hB
      have hqc := Quiet0.refl W0
      obtain ⟨⟨a0, a1, a2, a3, a4, a5, a6, a7, a8⟩, b0, b1, b2, b3, b4, b5, b6, b7, b8⟩ := HB.out _ hqc
      go_region_law (first
          | (go_simp; go_at_call 38; (with_reducible refine Calls.mono (HR.out _ ?hq) ?_); (case hq => (repeat (first | with_reducible exact hqc | with_reducible exact Quiet0.refl _ | with_reducible refine Quiet0.trans ?_ (Quiet0.alloc _ _) | with_reducible refine Quiet0.trans ?_ (Quiet0.drew _) | fail))); rintro e wx ⟨rfl, hqx⟩; (refine with_q (w0 := W0) ?hq2 hqx ?_); (case hq2 => (repeat (first | with_reducible exact hqc | with_reducible exact Quiet0.refl _ | with_reducible refine Quiet0.trans ?_ (Quiet0.alloc _ _) | with_reducible refine Quiet0.trans ?_ (Quiet0.drew _) | fail))); intro hqc; obtain ⟨⟨a0, a1, a2, a3, a4, a5, a6, a7, a8⟩, b0, b1, b2, b3, b4, b5, b6, b7, b8⟩ := HB.out _ hqc)
          | (go_simp; go_at_call 38; (with_reducible refine Calls.mono (HR'.out _ ?hq) ?_); (case hq => (repeat (first | with_reducible exact hqc | with_reducible exact Quiet0.refl _ | with_reducible refine Quiet0.trans ?_ (Quiet0.alloc _ _) | with_reducible refine Quiet0.trans ?_ (Quiet0.drew _) | fail))); rintro e wx ⟨rfl, hqx⟩; (refine with_q (w0 := W0) ?hq2 hqx ?_); (case hq2 => (repeat (first | with_reducible exact hqc | with_reducible exact Quiet0.refl _ | with_reducible refine Quiet0.trans ?_ (Quiet0.alloc _ _) | with_reducible refine Quiet0.trans ?_ (Quiet0.drew _) | fail))); intro hqc; obtain ⟨⟨a0, a1, a2, a3, a4, a5, a6, a7, a8⟩, b0, b1, b2, b3, b4, b5, b6, b7, b8⟩ := HB.out _ hqc)
          | (go_simp; go_at_call 50; (with_reducible refine Calls.mono (HV.out _ ?hq) ?_); (case hq => (repeat (first | with_reducible exact hqc | with_reducible exact Quiet0.refl _ | with_reducible refine Quiet0.trans ?_ (Quiet0.alloc _ _) | with_reducible refine Quiet0.trans ?_ (Quiet0.drew _) | fail))); rintro e wx ⟨q1, n1, e1, q2, n2, e2, rfl, hk1, hqx⟩; (try (refine with_tm hk2 ?hq3 hqx ?_; (case hq3 => (repeat (first | with_reducible exact Quiet0.refl _ | with_reducible refine Quiet0.trans ?_ (Quiet0.alloc _ _) | with_reducible refine Quiet0.trans ?_ (Quiet0.drew _) | fail))); intro hk2)); unfold tmv; (refine with_q (w0 := W0) ?hq2 hqx ?_); (case hq2 => (repeat (first | with_reducible exact hqc | with_reducible exact Quiet0.refl _ | with_reducible refine Quiet0.trans ?_ (Quiet0.alloc _ _) | with_reducible refine Quiet0.trans ?_ (Quiet0.drew _) | fail))); intro hqc; obtain ⟨⟨a0, a1, a2, a3, a4, a5, a6, a7, a8⟩, b0, b1, b2, b3, b4, b5, b6, b7, b8⟩ := HB.out _ hqc)
          | (go_simp; go_at_call 50; (with_reducible refine Calls.mono (HV'.out _ ?hq) ?_); (case hq => (repeat (first | with_reducible exact hqc | with_reducible exact Quiet0.refl _ | with_reducible refine Quiet0.trans ?_ (Quiet0.alloc _ _) | with_reducible refine Quiet0.trans ?_ (Quiet0.drew _) | fail))); rintro e wx ⟨r1, s1, f1, r2, s2, f2, rfl, hk2, hqx⟩; (try (refine with_tm hk1 ?hq3 hqx ?_; (case hq3 => (repeat (first | with_reducible exact Quiet0.refl _ | with_reducible refine Quiet0.trans ?_ (Quiet0.alloc _ _) | with_reducible refine Quiet0.trans ?_ (Quiet0.drew _) | fail))); intro hk1)); unfold tmv; (refine with_q (w0 := W0) ?hq2 hqx ?_); (case hq2 => (repeat (first | with_reducible exact hqc | with_reducible exact Quiet0.refl _ | with_reducible refine Quiet0.trans ?_ (Quiet0.alloc _ _) | with_reducible refine Quiet0.trans ?_ (Quiet0.drew _) | fail))); intro hqc; obtain ⟨⟨a0, a1, a2, a3, a4, a5, a6, a7, a8⟩, b0, b1, b2, b3, b4, b5, b6, b7, b8⟩ := HB.out _ hqc)
          | (go_simp; (go_at_call 49; (with_reducible refine Calls.mono (HE.out _ _ _ _ _ _ _ _ _ _ _ _ _ (hk1.stay ?hq3) (hk2.stay ?hq4)) ?_)); (case hq3 => (repeat (first | with_reducible exact Quiet0.refl _ | with_reducible refine Quiet0.trans ?_ (Quiet0.alloc _ _) | with_reducible refine Quiet0.trans ?_ (Quiet0.drew _) | fail))); (case hq4 => (repeat (first | with_reducible exact Quiet0.refl _ | with_reducible refine Quiet0.trans ?_ (Quiet0.alloc _ _) | with_reducible refine Quiet0.trans ?_ (Quiet0.drew _) | fail))); rintro e wx ⟨rfl, hqx⟩; (refine with_q (w0 := W0) ?hq2 hqx ?_); (case hq2 => (repeat (first | with_reducible exact hqc | with_reducible exact Quiet0.refl _ | with_reducible refine Quiet0.trans ?_ (Quiet0.alloc _ _) | with_reducible refine Quiet0.trans ?_ (Quiet0.drew _) | fail))); intro hqc)
          | fail)
      all_goals
        have HQC : Hid (Quiet0 W0 _) := hqc
        clear hqc hqx hk1 hk2
        go_wp2_with fail
        go_ret
        exact ⟨by rw [HF.out]; rfl, HQ0.out.trans HQC.out⟩
end Sc
end Go.Proofs.YtnfodiedalhlhaaDoor
end
