/-
  The law TermApplies: it returns true. Conditions: the terms lie in memory as told; the table of blanks holds what its initialiser lays.
-/
import Derived.Test.YtggidhgifaekbaaDoorTeAwake
import Derived.Test.YtggidhgifaekbaaDoorTeEqual
import Derived.Test.YtggidhgifaekbaaDoorTeRoom
import Derived.Test.YtggidhgifaekbaaDoorTeOpen
namespace Go.Proofs.YtggidhgifaekbaaDoor
open Go.RowKit Go.Shelf

theorem headB_refl (all : Bool) (h : Nd) : headB all h h = true := by
  unfold headB sameT
  cases all <;> simp [Fo.same_refl]
theorem alikeT_refl (all : Bool) (h : Nd) (ps : To) : alikeT all h ps h ps = true := by
  unfold alikeT
  rw [headB_refl, To.alike_refl (headB_refl all)]; rfl
/-- the law's loop is at its head: what it wants lies in its box -/
structure TlRel (B : Nat) (W0 wr : World) (g : Nd) (gs : To) : Prop where
  box : ∃ p1 m1 d1 p2 m2 d2, wr.heap[B]? = some (.cells (cells9 g p1 m1 d1 p2 m2 d2) 35 (0, 0)) ∧ SlcIn (fun k => k ≠ B) wr p1 m1 g.tp ∧ TSlc (fun k => k ≠ B) wr p2 m2 gs
  fr : Fr (fun k => k = B) W0 wr
theorem TlRel.first {B : Nat} {W0 wr : World} {hd : Nd} {qs : To} {u1 : Option Addr} {v1 t1 : Nat} {u2 : Option Addr} {v2 t2 : Nat} (hf : Fr (fun k => k = B) W0 wr)
    {b0 b1 b2 b3 b4 b5 b6 b7 b8 : Value} (hb : wr.heap[B]? = some (.cells #[b0, b1, b2, b3, b4, b5, b6, b7, b8] 35 (0, 0))) (h1 : SlcIn (fun k => k ≠ B) wr u1 v1 hd.tp) (h2 : TSlc (fun k => k ≠ B) wr u2 v2 qs) :
    TlRel B W0 (put9 wr B (.int .i64 hd.k) (.string hd.nm) (.int .i64 hd.n) (.int .i64 hd.tk) (.int .i64 hd.tn) (.slice u1 v1 t1) (.slice u2 v2 t2) (.int .i64 hd.fr) (.int .i64 hd.en)) hd qs :=
  ⟨⟨u1, v1, t1, u2, v2, t2, put9_block hb, h1.fr (put9_fr _ _ _ _ _ _ _ _ _ _ _) (fun _ _ h => ⟨h, h⟩), h2.fr (put9_fr _ _ _ _ _ _ _ _ _ _ _) (fun _ _ h => ⟨h, h⟩)⟩, hf.trans (put9_fr _ _ _ _ _ _ _ _ _ _ _)⟩
theorem TlRel.next {B : Nat} {W0 wr : World} {g hd : Nd} {gs qs : To} {p1 : Option Addr} {m1 d1 : Nat} {p2 : Option Addr} {m2 d2 : Nat} {u1 : Option Addr} {v1 t1 : Nat} {u2 : Option Addr} {v2 t2 : Nat} (hf : Fr (fun k => k = B) W0 wr)
    (hb : wr.heap[B]? = some (.cells (cells9 g p1 m1 d1 p2 m2 d2) 35 (0, 0))) (hp1 : SlcIn (fun k => k ≠ B) wr p1 m1 g.tp) (hp2 : TSlc (fun k => k ≠ B) wr p2 m2 gs) (h1 : SlcIn (fun k => k ≠ B) wr u1 v1 hd.tp) (h2 : TSlc (fun k => k ≠ B) wr u2 v2 qs) :
    TlRel B W0 ((put9 wr B (.int .i64 5) (.string ⟨#[]⟩) (.int .i64 0) (.int .i64 0) (.int .i64 0) (.slice none 0 0) (.slice (some ⟨wr.heap.size, 0, none⟩) 2 2) (.int .i64 0) (.int .i64 0)).alloc (.cells (cells18 g p1 m1 d1 p2 m2 d2 hd u1 v1 t1 u2 v2 t2) 35)) appNd (.cons g gs (.cons hd qs .nil)) := by
  have hput := put9_fr wr B (.int .i64 5) (.string ⟨#[]⟩) (.int .i64 0) (.int .i64 0) (.int .i64 0) (.slice none 0 0) (.slice (some ⟨wr.heap.size, 0, none⟩) 2 2) (.int .i64 0) (.int .i64 0)
  have hbl := put9_block (a0 := .int .i64 5) (a1 := .string ⟨#[]⟩) (a2 := .int .i64 0) (a3 := .int .i64 0) (a4 := .int .i64 0) (a5 := .slice none 0 0) (a6 := .slice (some ⟨wr.heap.size, 0, none⟩) 2 2) (a7 := .int .i64 0) (a8 := .int .i64 0) hb
  have hsz := put9_size wr B (.int .i64 5) (.string ⟨#[]⟩) (.int .i64 0) (.int .i64 0) (.int .i64 0) (.slice none 0 0) (.slice (some ⟨wr.heap.size, 0, none⟩) 2 2) (.int .i64 0) (.int .i64 0)
  generalize (put9 wr B (.int .i64 5) (.string ⟨#[]⟩) (.int .i64 0) (.int .i64 0) (.int .i64 0) (.slice none 0 0) (.slice (some ⟨wr.heap.size, 0, none⟩) 2 2) (.int .i64 0) (.int .i64 0)) = wp at *
  have hnew := heap_alloc_new wp (.cells (cells18 g p1 m1 d1 p2 m2 d2 hd u1 v1 t1 u2 v2 t2) 35)
  rw [hsz] at hnew
  have hl3 := lt_of_block hb
  have ha := Quiet0.alloc wp (.cells (cells18 g p1 m1 d1 p2 m2 d2 hd u1 v1 t1 u2 v2 t2) 35)
  refine ⟨⟨none, 0, 0, some ⟨wr.heap.size, 0, none⟩, 2, 2, ?_, SlcIn.nil _ _ _, ?_⟩, ?_⟩
  · rw [Below.heap_alloc _ _ _ (by rw [hsz]; exact hl3)]; exact hbl
  · refine slc9two hnew (by omega) ?_ ?_ ?_ ?_
    · exact (hp1.fr hput (fun k _ h => ⟨h, h⟩)).stay ha
    · exact (hp2.fr hput (fun k _ h => ⟨h, h⟩)).stay ha
    · exact (h1.fr hput (fun k _ h => ⟨h, h⟩)).stay ha
    · exact (h2.fr hput (fun k _ h => ⟨h, h⟩)).stay ha
  · exact (hf.trans hput).trans ha.fr
theorem TlRel.drew {B : Nat} {W0 wr : World} {g : Nd} {gs : To} (h : TlRel B W0 wr g gs) : TlRel B W0 wr.drew g gs := by
  obtain ⟨⟨p1, m1, d1, p2, m2, d2, h1, h2, h3⟩, h4⟩ := h
  exact ⟨⟨p1, m1, d1, p2, m2, d2, blk_drew h1, h2.stay (Quiet0.drew _), h3.stay (Quiet0.drew _)⟩, h4.trans (Fr.drew _ _)⟩
theorem allT_of_get {G : Nd → Prop} : ∀ (f : To), (∀ i h ps, f.get i = some (h, ps) → G h ∧ allT G ps) → allT G f
  | .nil, _ => trivial
  | .cons h ps r, e => ⟨(e 0 h ps rfl).1, (e 0 h ps rfl).2, allT_of_get r (fun i h' ps' g => e (i + 1) h' ps' g)⟩
theorem size_of_get {m : Nat} : ∀ (f : To), (∀ i h ps, f.get i = some (h, ps) → ps.size + 1 ≤ m) → f.size ≤ m * f.length
  | .nil, _ => Nat.zero_le _
  | .cons h ps r, e => by
    have h1 := e 0 h ps rfl
    have h2 := size_of_get r (fun i h' ps' g => e (i + 1) h' ps' g)
    simp only [To.size, To.length, Nat.mul_add]
    omega
theorem get_lt : ∀ (f : To) (i : Nat) (h : Nd) (ps : To), f.get i = some (h, ps) → i < f.length
  | .nil, i, h, ps, e => by simp [To.get] at e
  | .cons _ _ r, 0, h, ps, _ => by simp [To.length]
  | .cons _ _ r, i + 1, h, ps, e => by have := get_lt r i h ps e; simp only [To.length]; omega
set_option maxHeartbeats 8000000 in
set_option maxRecDepth 100000 in
theorem termApplies_all (f : To) (w : World) (o : Option Addr) (n cap : Nat) (hs : TSlc (Low w) w o n f) (hok : allT OkO f) (hcap : n ≤ cap) (ht : Lx.Spaces w) :
    Calls Tryd.prog 5 #[.slice o n cap] w fun e w' => e = .returned (.bool true) ∧ Quiet0 w w' := by
  have HA : Hid (∀ W, Quiet0 w W → Calls Tryd.prog 21 #[] W fun e w' => e = .returned (.bool true) ∧ Quiet0 W w') := fun W hq => awakeT_any W (ht.stay hq)
  by_cases h12 : n ≤ 12
  · have HF := Lib.hid hs.1
    have HOK := Lib.hid hok
    obtain ⟨W0, hW0⟩ : ∃ W0, W0 = w.alloc (.cells zero9 35) := ⟨_, rfl⟩
    have HQ0 : Hid (Quiet0 w W0) := by rw [hW0]; exact Quiet0.alloc _ _
    have HB0 : Hid (W0.heap[w.heap.size]? = some (.cells zero9 35 (0, 0))) := by rw [hW0]; exact heap_alloc_new w _
    have HREL : Hid (TlRel w.heap.size W0 W0 zeroNd .nil) := ⟨⟨none, 0, 0, none, 0, 0, HB0.out, SlcIn.nil _ _ _, TSlc.nil _ _ _⟩, Fr.refl _ _⟩
    have HQW : Hid (∀ W, Fr (fun k => k = w.heap.size) W0 W → Quiet0 w W) := fun W hf => Fr.trans' HQ0.out hf (fun k hk e => by omega)
    have HSW : Hid (∀ W, Quiet0 w W → TSlc (Low w) W o n f) := fun W hq => hs.stay hq
    have HNE : Hid (∀ W, Quiet0 w W → ∀ o l f, SlcIn (Low w) W o l f → SlcIn (fun k => k ≠ w.heap.size) W o l f) := fun W hq o l f h => h.mono (fun k _ hk => by have h' : k < w.heap.size := hk; omega)
    have HNT : Hid (∀ W, Quiet0 w W → ∀ o l f, TSlc (Low w) W o l f → TSlc (fun k => k ≠ w.heap.size) W o l f) := fun W hq o l f h => h.mono (fun k _ hk => by have h' : k < w.heap.size := hk; omega)
    have HAPL : Hid ((∀ i h ps, f.get i = some (h, ps) → greatTm h ps = false) → ∀ W, Quiet0 w W → Calls Tryd.prog 24 #[.slice o n cap] W fun e w' => ∃ p1 m1 d1 p2 m2 d2, e = .returned (tmv (appAll f).1 p1 m1 d1 p2 m2 d2) ∧ SlcIn (fun _ => True) w' p1 m1 (appAll f).1.tp ∧ TSlc (fun _ => True) w' p2 m2 (appAll f).2 ∧ Quiet0 W w') := by
      intro hng W hq
      have hb := allT_of_get (G := fun h => bigH h = false) f (fun i h ps g => ⟨(greatTm_no (hng i h ps g)).1, (greatTm_no (hng i h ps g)).2.1⟩)
      have hz := size_of_get (m := 200) f (fun i h ps g => (greatTm_no (hng i h ps g)).2.2.1)
      rw [← hs.1] at hz
      have hat := allT_mono (H := fun h => h.tp.size ≤ 1000000) (fun h hh => by have := (bigH_no hh).2; omega) f hb
      have hz' : f.size ≤ 1000000 := by have : 200 * n ≤ 200 * 12 := Nat.mul_le_mul_left _ h12; omega
      have h2 := hs.stay hq
      have key : Calls Tryd.prog 24 #[.slice o n cap] W (ApplyPost W f) := by
        cases f with
        | nil => obtain rfl := tslc_nil h2; exact apply_nil W o cap
        | cons h ps r => exact apply_more h ps r W _ o n cap h2 hcap hat hz'
      refine key.mono ?_
      rintro e w' ⟨p1, m1, d1, p2, m2, d2, rfl, h1, h2, hq⟩
      exact ⟨p1, m1, d1, p2, m2, d2, rfl, h1.mono (fun _ _ _ => trivial), h2.mono (fun _ _ _ => trivial), hq⟩
    have hn12 : ¬ (12 : Int) < n := by omega
    clear hs hok ht
    go_enter Tryd.func5, Tryd.ntmps5
    go_upto_region 4 with fail
    change Code.wp _ _ _ _ (w.alloc (.cells zero9 35))
    rw [← hW0]
    clear hW0 hn12
    generalize hB : w.heap.size = B at *
    clear hB
    go_wp2_with fail
    go_loopw [4] (fun t wr => ∃ (i : Nat) (g : Nd) (gs : To), t = .int .i64 i ∧ i ≤ n ∧ ((i = 0 ∧ g = zeroNd ∧ gs = .nil) ∨ (0 < i ∧ foldA g gs (f.drop i) = appAll f)) ∧ (∀ j, j < i → ∀ h ps, f.get j = some (h, ps) → greatTm h ps = false) ∧ TlRel B W0 wr g gs) (fun t _ => n - (intOf t).toNat)
    case atStart => exact ⟨0, zeroNd, .nil, rfl, Nat.zero_le _, .inl ⟨rfl, rfl, rfl⟩, (fun j hj => absurd hj (Nat.not_lt_zero _)), HREL.out⟩
    case round =>
      obtain ⟨i, g, gs, rfl, hi, hfo, hng, hrel⟩ := hrel
      have HFO := Lib.hid hfo
      have HNG := Lib.hid hng
      have HR := Lib.hid hrel
      have HQR := Lib.hid (HQW.out wr hrel.fr)
      clear hfo hng hrel
      by_cases hlt : i < n
      · have hlt' : (i : Int) < n := by omega
        obtain ⟨b5, off5, hd, qs, u1, v1, t1, u2, v2, t2, rfl, hdr5, hg5, hR5, hc5, hsl5, hts5⟩ := (HSW.out wr HQR.out).nth hlt
        have hok5 := allT_get f i hd qs HOK.out hg5
        have hmx : ∀ h : Nd, OkO h → h.nm.size ≤ 9223372036854775807 := fun h hh => by have := hh.1; unfold maxLen at this; omega
        have HGR := Lib.hid (greatTm_any hd qs wr (Low w) u1 v1 t1 u2 v2 t2 hsl5 hts5 (hmx _ hok5.1) (allT_mono hmx _ hok5.2))
        have HSL5 := Lib.hid hsl5
        have HTS5 := Lib.hid hts5
        have HC5 := Lib.hid hc5
        have HDR := Lib.hid hdr5
        have HG5 := Lib.hid hg5
        obtain ⟨f0, f1, f2, f3, f4, f5, f6, f7, f8⟩ := hc5
        unfold tmv at HGR
        clear hok5 hmx hsl5 hts5 hdr5 hg5 hR5
        cases hgr : greatTm hd qs
        · rw [hgr] at HGR
          go_wp2_with fail
          refine HGR.out.mono ?_; rintro e w1 ⟨rfl, hq1⟩
          have HQ1 := Lib.hid hq1
          have HNG' : Hid (∀ j, j < i + 1 → ∀ h ps, f.get j = some (h, ps) → greatTm h ps = false) := by
            intro j hj h ps e
            by_cases hji : j < i
            · exact HNG.out j hji h ps e
            · obtain rfl : j = i := by omega
              have := HG5.out.symm.trans e
              cases this
              exact hgr
          clear f0 f1 f2 f3 f4 f5 f6 f7 f8 hq1 hgr
          obtain ⟨f0, f1, f2, f3, f4, f5, f6, f7, f8⟩ := HC5.out.fr HQ1.out (fun h => h)
          obtain ⟨p1, m1, d1, p2, m2, d2, hbx, hp1, hp2⟩ := HR.out.box
          obtain ⟨⟨x0, x1, x2, x3, x4, x5, x6, x7, x8⟩, y0, y1, y2, y3, y4, y5, y6, y7, y8⟩ := block9 (blk_after HQ1.out hbx)
          have HBX := Lib.hid (blk_after HQ1.out hbx)
          have HP1 := Lib.hid (hp1.stay HQ1.out)
          have HP2 := Lib.hid (hp2.stay HQ1.out)
          have HU1 := Lib.hid (HNE.out _ (HQR.out.trans HQ1.out) _ _ _ (HSL5.out.stay HQ1.out))
          have HU2 := Lib.hid (HNT.out _ (HQR.out.trans HQ1.out) _ _ _ (HTS5.out.stay HQ1.out))
          have HFR := Lib.hid (HR.out.fr.trans HQ1.out.fr)
          clear hbx hp1 hp2
          by_cases hi0 : i = 0
          · subst hi0
            rw [Nat.zero_mul, Nat.add_zero] at f0 f1 f2 f3 f4 f5 f6 f7 f8
            have HN := Lib.hid (TlRel.first (t1 := t1) (t2 := t2) HFR.out HBX.out HU1.out HU2.out)
            unfold put9 at HN
            have HFN : Hid (foldA hd qs (f.drop (0 + 1)) = appAll f) := by
              show _ = _
              conv => rhs; rw [← To.drop_zero f, HDR.out]
              rfl
            go_wp2_with fail
            go_roundw
            case rel => exact ⟨0 + 1, hd, qs, by go_num, by omega, .inr ⟨by omega, HFN.out⟩, HNG'.out, HN.out⟩
            case measure => simp [intOf]; omega
          · have hi0' : ¬ (i : Int) = 0 := by omega
            have HN := Lib.hid (TlRel.next (t1 := t1) (t2 := t2) HFR.out HBX.out HP1.out HP2.out HU1.out HU2.out)
            unfold put9 at HN
            have HFN : Hid (foldA appNd (.cons g gs (.cons hd qs .nil)) (f.drop (i + 1)) = appAll f) := by
              show _ = _
              rcases HFO.out with h | h
              · exact absurd h.1 hi0
              · rw [← h.2, HDR.out]; rfl
            go_upto_region 11 with fail
            have hlx := lt_of_block HBX.out
            go_region_with fail
            all_goals
              clear x0 x1 x2 x3 x4 x5 x6 x7 x8 y0 y1 y2 y3 y4 y5 y6 y7 y8 f0 f1 f2 f3 f4 f5 f6 f7 f8 hlx
              go_wp2_with fail
              go_roundw
              case rel => exact ⟨i + 1, appNd, _, by go_num, by omega, .inr ⟨by omega, HFN.out⟩, HNG'.out, by first | with_reducible exact HN.out | with_reducible exact HN.out.drew | with_reducible exact HN.out.drew.drew⟩
              case measure => simp [intOf]; omega
        · rw [hgr] at HGR
          go_wp2_with fail
          refine HGR.out.mono ?_; rintro e w1 ⟨rfl, hq1⟩
          clear f0 f1 f2 f3 f4 f5 f6 f7 f8
          go_wp2_with fail
          refine (HA.out _ (HQR.out.trans hq1)).mono ?_; rintro e w2 ⟨rfl, hq2⟩
          go_wp2_with fail
          go_ret
          exact ⟨rfl, (HQR.out.trans hq1).trans hq2⟩
      · have hlt' : ¬ (i : Int) < n := by omega
        obtain rfl : i = n := by omega
        have hfin : appAll f = (g, gs) := by
          rcases HFO.out with ⟨h1, h2, h3⟩ | ⟨h1, h2⟩
          · subst h1 h2 h3
            have := HF.out
            cases f with
            | nil => rfl
            | cons _ _ _ => simp [To.length] at this
          · rw [To.drop_end f i (by have := HF.out; omega)] at h2; exact h2.symm
        have HAP := Lib.hid (HAPL.out (fun j h ps e => HNG.out j (by have := get_lt f j h ps e; have := HF.out; omega) h ps e))
        rw [hfin] at HAP
        obtain ⟨q1, n1, e1, q2, n2, e2, hbx, hp1, hp2⟩ := HR.out.box
        have HBC : Hid (∀ W, Quiet0 wr W → W.cell? ⟨B, 0, none⟩ = some (.int .i64 g.k) ∧ W.cell? ⟨B, 1, none⟩ = some (.string g.nm) ∧ W.cell? ⟨B, 2, none⟩ = some (.int .i64 g.n) ∧ W.cell? ⟨B, 3, none⟩ = some (.int .i64 g.tk) ∧ W.cell? ⟨B, 4, none⟩ = some (.int .i64 g.tn) ∧ W.cell? ⟨B, 5, none⟩ = some (.slice q1 n1 e1) ∧ W.cell? ⟨B, 6, none⟩ = some (.slice q2 n2 e2) ∧ W.cell? ⟨B, 7, none⟩ = some (.int .i64 g.fr) ∧ W.cell? ⟨B, 8, none⟩ = some (.int .i64 g.en)) := fun W hq => (block9 (blk_after hq hbx)).1
        have HAP2 : Hid (∀ W, Quiet0 wr W → Calls Tryd.prog 24 #[.slice o i cap] W fun e w' => ∃ p1 m1 d1 p2 m2 d2, e = .returned (tmv g p1 m1 d1 p2 m2 d2) ∧ SlcIn (fun _ => True) w' p1 m1 g.tp ∧ TSlc (fun _ => True) w' p2 m2 gs ∧ Quiet0 W w') := fun W hq => HAP.out W (HQR.out.trans hq)
        have HEQ : Hid (∀ W p1 m1 d1 p2 m2 d2, Quiet0 wr W → SlcIn (fun _ => True) W p1 m1 g.tp → TSlc (fun _ => True) W p2 m2 gs → Calls Tryd.prog 23 #[tmv g p1 m1 d1 p2 m2 d2, tmv g q1 n1 e1 q2 n2 e2] W fun e w' => e = .returned (.bool true) ∧ Quiet0 W w') := by
          intro W p1 m1 d1 p2 m2 d2 hq h1 h2
          have h := refEqualT_any g gs g gs W (fun _ => True) p1 m1 d1 p2 m2 d2 q1 n1 e1 q2 n2 e2 h1 h2 ((hp1.stay hq).mono (fun _ _ _ => trivial)) ((hp2.stay hq).mono (fun _ _ _ => trivial))
          rw [alikeT_refl] at h; exact h
        have HAW : Hid (∀ W, Quiet0 wr W → Calls Tryd.prog 21 #[] W fun e w' => e = .returned (.bool true) ∧ Quiet0 W w') := fun W hq => HA.out W (HQR.out.trans hq)
        have hqc := Quiet0.refl wr
        obtain ⟨x0, x1, x2, x3, x4, x5, x6, x7, x8⟩ := HBC.out wr (Quiet0.refl _)
        clear hfin hbx hp1 hp2 HAPL HAP
        unfold tmv at HAP2 HEQ
        go_upto_region 12 with fail
        go_region_held3 (fun W => W.cell? ⟨B, 0, none⟩ = some (.int .i64 g.k) ∧ W.cell? ⟨B, 1, none⟩ = some (.string g.nm) ∧ W.cell? ⟨B, 2, none⟩ = some (.int .i64 g.n) ∧ W.cell? ⟨B, 3, none⟩ = some (.int .i64 g.tk) ∧ W.cell? ⟨B, 4, none⟩ = some (.int .i64 g.tn) ∧ W.cell? ⟨B, 5, none⟩ = some (.slice q1 n1 e1) ∧ W.cell? ⟨B, 6, none⟩ = some (.slice q2 n2 e2) ∧ W.cell? ⟨B, 7, none⟩ = some (.int .i64 g.fr) ∧ W.cell? ⟨B, 8, none⟩ = some (.int .i64 g.en))
          (((refine HBC.out _ ?_); (repeat (first | with_reducible exact hqc | with_reducible exact Quiet0.refl _ | with_reducible refine Quiet0.trans ?_ (Quiet0.alloc _ _) | with_reducible refine Quiet0.trans ?_ (Quiet0.drew _) | fail))))
          (first
            | (go_at_call 24; (with_reducible refine Calls.mono (HAP2.out _ ?hq) ?_); (case hq => (repeat (first | with_reducible exact hqc | with_reducible exact Quiet0.refl _ | with_reducible refine Quiet0.trans ?_ (Quiet0.alloc _ _) | with_reducible refine Quiet0.trans ?_ (Quiet0.drew _) | fail))); rintro e wx ⟨p1, m1, d1, p2, m2, d2, rfl, hk1, hk2, hqx⟩; (refine with_q (w0 := wr) ?hq2 hqx ?_); (case hq2 => (repeat (first | with_reducible exact hqc | with_reducible exact Quiet0.refl _ | with_reducible refine Quiet0.trans ?_ (Quiet0.alloc _ _) | with_reducible refine Quiet0.trans ?_ (Quiet0.drew _) | fail))); intro hqc)
            | (go_at_call 23; (with_reducible refine Calls.mono (HEQ.out _ _ _ _ _ _ _ ?hq (hk1.stay ?h1) (hk2.stay ?h2)) ?_); (case hq => (repeat (first | with_reducible exact hqc | with_reducible exact Quiet0.refl _ | with_reducible refine Quiet0.trans ?_ (Quiet0.alloc _ _) | with_reducible refine Quiet0.trans ?_ (Quiet0.drew _) | fail))); ((case h1 => (repeat (first | with_reducible exact Quiet0.refl _ | with_reducible refine Quiet0.trans ?_ (Quiet0.alloc _ _) | with_reducible refine Quiet0.trans ?_ (Quiet0.drew _) | fail))); (case h2 => (repeat (first | with_reducible exact Quiet0.refl _ | with_reducible refine Quiet0.trans ?_ (Quiet0.alloc _ _) | with_reducible refine Quiet0.trans ?_ (Quiet0.drew _) | fail)))); rintro e wx ⟨rfl, hqx⟩; (refine with_q (w0 := wr) ?hq2 hqx ?_); (case hq2 => (repeat (first | with_reducible exact hqc | with_reducible exact Quiet0.refl _ | with_reducible refine Quiet0.trans ?_ (Quiet0.alloc _ _) | with_reducible refine Quiet0.trans ?_ (Quiet0.drew _) | fail))); intro hqc)
            | (go_at_call 21; (with_reducible refine Calls.mono (HAW.out _ ?hq) ?_); (case hq => (repeat (first | with_reducible exact hqc | with_reducible exact Quiet0.refl _ | with_reducible refine Quiet0.trans ?_ (Quiet0.alloc _ _) | with_reducible refine Quiet0.trans ?_ (Quiet0.drew _) | fail))); rintro e wx ⟨rfl, hqx⟩; (refine with_q (w0 := wr) ?hq2 hqx ?_); (case hq2 => (repeat (first | with_reducible exact hqc | with_reducible exact Quiet0.refl _ | with_reducible refine Quiet0.trans ?_ (Quiet0.alloc _ _) | with_reducible refine Quiet0.trans ?_ (Quiet0.drew _) | fail))); intro hqc)
            | fail)
        all_goals
          go_wp2_with fail
          go_ret
          exact ⟨rfl, HQR.out.trans hqc⟩
  · have hn12 : (12 : Int) < n := by omega
    clear hs hok ht
    go_enter Tryd.func5, Tryd.ntmps5
    go_wp2_with fail
    refine (HA.out _ (Quiet0.refl _)).mono ?_; rintro e w1 ⟨rfl, hq1⟩
    go_wp2_with fail
    go_ret
    exact ⟨rfl, hq1⟩
end Go.Proofs.YtggidhgifaekbaaDoor
