/-
  Texts laid together (ScRAlk, ScRCall1): laws and walks, with their conditions in their statements.
-/
import Derived.Test.YtnfodiedalhlhaaDoorRN18
section
namespace Go.Proofs.YtnfodiedalhlhaaDoor
open Go.RowKit Go.Shelf
namespace Sc
theorem with_nm {T : Nat → Prop} {w W w3 : World} {o : Option Addr} {n : Nat} {e : List ByteArray} {G : Prop} (h : NmIn T w o n e) (hq : Quiet0 w W) (hqx : Quiet0 W w3) (k : NmIn T w3 o n e → G) : G := k (h.stay (hq.trans hqx))
def RAlkT (h : Nd) (ps : To) : Prop := ∀ (h' : Nd) (ps' : To) (w : World) (R T T' : Nat → Prop) (o1 : Option Addr) (l1 c1 : Nat) (o2 : Option Addr) (l2 c2 : Nat) (p1 : Option Addr) (m1 d1 : Nat) (p2 : Option Addr) (m2 d2 : Nat) (no : Option Addr) (nn nc : Nat) (x : List ByteArray) (no' : Option Addr) (nn' nc' : Nat) (y : List ByteArray),
  SlcIn R w o1 l1 h.tp → TSlc R w o2 l2 ps → SlcIn R w p1 m1 h'.tp → TSlc R w p2 m2 ps' → NmIn T w no nn x → NmIn T' w no' nn' y → nn + ps.size ≤ 200000 → nn' + ps.size ≤ 200000 →
  Calls Tryd.prog 24 #[tmv h o1 l1 c1 o2 l2 c2, tmv h' p1 m1 d1 p2 m2 d2, .slice no nn nc, .slice no' nn' nc'] w fun e w' => e = .returned (.bool (refA1 x y h ps h' ps')) ∧ Quiet0 w w'
set_option maxRecDepth 100000 in
set_option maxHeartbeats 8000000 in
theorem ref8Alike_any (h : Nd) (ps : To) : RAlkT h ps := by
  refine To.ind' (T := RAlkT) ?_ h ps
  intro h ps ih h' ps' w R T T' o1 l1 c1 o2 l2 c2 p1 m1 d1 p2 m2 d2 no nn nc x no' nn' nc' y hs1 hs hs1' hs' hN hN' hsz hsz'
  have IH := Lib.hid ih
  have HS := Lib.hid hs
  have HS' := Lib.hid hs'
  have HN := Lib.hid hN
  have HN' := Lib.hid hN'
  have HL := Lib.hid hs.1
  have HL' := Lib.hid hs'.1
  have hll := To.length_le ps
  rw [← hs.1] at hll
  have hmx := hs.2.1
  have hmx' := hs'.2.1
  unfold maxLen at hmx hmx'
  obtain ⟨W0, hW0⟩ : ∃ W0, W0 = (w.alloc (.cells (cells9 h o1 l1 c1 o2 l2 c2) 30)).alloc (.cells (cells9 h' p1 m1 d1 p2 m2 d2) 30) := ⟨_, rfl⟩
  have HB : Hid (∀ W, Quiet0 W0 W → Cells9 W w.heap.size 0 h o1 l1 c1 o2 l2 c2 ∧ Cells9 W (w.heap.size + 1) 0 h' p1 m1 d1 p2 m2 d2) := by
    intro W hq; rw [hW0] at hq; exact box92 w h o1 l1 c1 o2 l2 c2 h' p1 m1 d1 p2 m2 d2 _ W hq
  have HQ0 : Hid (Quiet0 w W0) := by rw [hW0]; exact (Quiet0.alloc _ _).trans (Quiet0.alloc _ _)
  have HC := Lib.hid (fun (W : World) (hq : Quiet0 W0 W) => refSame_any h.tk h.tn h.tp h'.tk h'.tn h'.tp W o1 l1 c1 p1 m1 d1 (hs1.slc.stay (HQ0.out.trans hq)) (hs1'.slc.stay (HQ0.out.trans hq)))
  have HI1 : Hid (∀ W, Quiet0 W0 W → Calls Tryd.prog 20 #[.slice no nn nc, .string h.nm] W fun z w' => z = .returned (.int .i64 (ix x h.nm)) ∧ W = w') := fun W hq => refIndex_any T x h.nm no nn nc W (hN.stay (HQ0.out.trans hq)) (by omega)
  have HI2 : Hid (∀ W, Quiet0 W0 W → Calls Tryd.prog 20 #[.slice no' nn' nc', .string h'.nm] W fun z w' => z = .returned (.int .i64 (ix y h'.nm)) ∧ W = w') := fun W hq => refIndex_any T' y h'.nm no' nn' nc' W (hN'.stay (HQ0.out.trans hq)) (by omega)
  have HNL := Lib.hid hN.1
  have HNL' := Lib.hid hN'.1
  unfold tyv at HC
  have HRA : Hid (refA1 x y h ps h' ps' = ((h.k == h'.k) && (l2 == m2) && sameT h.tk h.tn h.tp h'.tk h'.tn h'.tp && (if h.k = 1 then (ix x h.nm == ix y h'.nm) && (decide (0 ≤ ix x h.nm) || h.nm.toList == h'.nm.toList)
        else (h.n == h'.n) && refAR h.k h.nm h'.k h'.nm 0 x y ps ps'))) := by show _ = _; rw [hs.1, hs'.1]; rfl
  obtain ⟨res, hres⟩ : ∃ res, res = refA1 x y h ps h' ps' := ⟨_, rfl⟩
  rw [← hres]
  rw [← hres] at HRA
  clear hs1 hs hs1' hs' hN hN' ih hres
  generalize sameT h.tk h.tn h.tp h'.tk h'.tn h'.tp = sb at *
  have e1 : ∀ a b : Nat, ((a : Int) != (b : Int)) = !(a == b) := fun a b => by
    rw [bne]; congr 1; rw [Bool.eq_iff_iff, beq_iff_eq, beq_iff_eq]; omega
  have E1 := Lib.hid e1
  clear e1
  unfold tmv
  cases hk : (h.k == h'.k)
  case false =>
    have hk' : (h.k != h'.k) = true := by simp [bne, hk]
    have HR : Hid (res = false) := by show _ = _; rw [HRA.out, hk]; rfl
    clear HRA
    rw [HR.out]
    go_enter Tryd.func24, Tryd.ntmps24
    go_upto_region 1 with fail
    rw [← hW0]
    clear hW0
    generalize hnb : w.heap.size = nb at *
    have HNB := Lib.hid hnb
    clear hnb
    obtain ⟨⟨a0, a1, a2, a3, a4, a5, a6, a7, a8⟩, b0, b1, b2, b3, b4, b5, b6, b7, b8⟩ := HB.out W0 (Quiet0.refl _)
    go_wp2_with fail
    go_ret
    exact ⟨rfl, HQ0.out⟩
  have hk' : (h.k != h'.k) = false := by simp [bne, hk]
  cases hl : (l2 == m2)
  case false =>
    have hl' : ((l2 : Int) != (m2 : Int)) = true := by rw [E1.out, hl]; rfl
    have HR : Hid (res = false) := by show _ = _; rw [HRA.out, hk, hl]; rfl
    clear HRA
    rw [HR.out]
    go_enter Tryd.func24, Tryd.ntmps24
    go_upto_region 1 with fail
    rw [← hW0]
    clear hW0
    generalize hnb : w.heap.size = nb at *
    have HNB := Lib.hid hnb
    clear hnb
    obtain ⟨⟨a0, a1, a2, a3, a4, a5, a6, a7, a8⟩, b0, b1, b2, b3, b4, b5, b6, b7, b8⟩ := HB.out W0 (Quiet0.refl _)
    go_wp2_with fail
    go_ret
    exact ⟨rfl, HQ0.out⟩
  have hl' : ((l2 : Int) != (m2 : Int)) = false := by rw [E1.out, hl]; rfl
  have HLM : Hid (l2 = m2) := by show _ = _; simpa using hl
  cases sb
  case false =>
    have HR : Hid (res = false) := by show _ = _; rw [HRA.out, hk, hl]; rfl
    clear HRA
    rw [HR.out]
    go_enter Tryd.func24, Tryd.ntmps24
    go_upto_region 1 with fail
    rw [← hW0]
    clear hW0
    generalize hnb : w.heap.size = nb at *
    have HNB := Lib.hid hnb
    clear hnb
    obtain ⟨⟨a0, a1, a2, a3, a4, a5, a6, a7, a8⟩, b0, b1, b2, b3, b4, b5, b6, b7, b8⟩ := HB.out W0 (Quiet0.refl _)
    go_wp2_with fail
    refine (HC.out _ (Quiet0.refl _)).mono ?_; rintro e w1 ⟨rfl, hq1⟩
    go_wp2_with fail
    go_ret
    exact ⟨rfl, HQ0.out.trans hq1⟩
  by_cases hk1 : h.k = 1
  · have hk1' : (h.k == 1) = true := by simp [hk1]
    have HR : Hid (res = ((ix x h.nm == ix y h'.nm) && (decide (0 ≤ ix x h.nm) || h.nm.toList == h'.nm.toList))) := by show _ = _; rw [HRA.out, hk, hl, if_pos hk1]; rfl
    clear HRA hk1 IH
    generalize ix x h.nm = r1 at *
    generalize ix y h'.nm = r2 at *
    go_enter Tryd.func24, Tryd.ntmps24
    go_upto_region 1 with fail
    rw [← hW0]
    clear hW0
    generalize hnb : w.heap.size = nb at *
    have HNB := Lib.hid hnb
    clear hnb
    obtain ⟨⟨a0, a1, a2, a3, a4, a5, a6, a7, a8⟩, b0, b1, b2, b3, b4, b5, b6, b7, b8⟩ := HB.out W0 (Quiet0.refl _)
    go_wp2_with fail
    refine (HC.out _ (Quiet0.refl _)).mono ?_; rintro e w1 ⟨rfl, hq1⟩
    clear a0 a1 a2 a3 a4 a5 a6 a7 a8 b0 b1 b2 b3 b4 b5 b6 b7 b8
    obtain ⟨⟨a0, a1, a2, a3, a4, a5, a6, a7, a8⟩, b0, b1, b2, b3, b4, b5, b6, b7, b8⟩ := HB.out w1 hq1
    have HQ1 := Lib.hid hq1
    clear hq1
    go_upto_region 4 with fail
    have HJ1 : Hid (∀ n, Calls Tryd.prog 20 #[.slice no nn nc, .string h.nm] (w1.drewN n) fun z w' => z = .returned (.int .i64 r1) ∧ ∃ m, w' = w1.drewN m) := fun n => (HI1.out _ (HQ1.out.trans (Quiet0.drewN _ _))).mono (fun _ _ hh => ⟨hh.1, n, hh.2.symm⟩)
    have HJ2 : Hid (∀ n, Calls Tryd.prog 20 #[.slice no' nn' nc', .string h'.nm] (w1.drewN n) fun z w' => z = .returned (.int .i64 r2) ∧ ∃ m, w' = w1.drewN m) := fun n => (HI2.out _ (HQ1.out.trans (Quiet0.drewN _ _))).mono (fun _ _ hh => ⟨hh.1, n, hh.2.symm⟩)
    go_quiet ((go_at_call 20; first | with_reducible exact HJ1.out _ | with_reducible exact HJ2.out _))
    have HQ2 : Hid (Quiet0 w (w1.drewN nq)) := HQ0.out.trans (HQ1.out.trans (Quiet0.drewN _ _))
    clear HJ1 HJ2 HI1 HI2
    cases he : (r1 == r2)
    · have HE : Hid (res = false) := by show _ = _; rw [HR.out, he]; rfl
      go_wp2_with fail
      go_ret
      exact ⟨by rw [HE.out]; rfl, HQ2.out⟩
    · by_cases h0 : r1 ≥ 0
      · have h0' : decide (r1 ≥ 0) = true := by simp [h0]
        have HE : Hid (res = true) := by show _ = _; rw [HR.out, he]; have : decide (0 ≤ r1) = true := h0'; rw [this]; rfl
        go_wp2_with fail
        go_ret
        exact ⟨by rw [HE.out]; rfl, HQ2.out⟩
      · have h0' : decide (r1 ≥ 0) = false := by simp [h0]
        have HE : Hid (res = (h.nm.toList == h'.nm.toList)) := by show _ = _; rw [HR.out, he]; have : decide (0 ≤ r1) = false := h0'; rw [this]; rfl
        go_wp2_with fail
        go_ret
        exact ⟨by rw [HE.out]; rfl, HQ2.out⟩
  · have hk1' : (h.k == 1) = false := by simp [hk1]
    have hlm := HLM.out
    subst hlm
    have HR : Hid (res = ((h.n == h'.n) && refAR h.k h.nm h'.k h'.nm 0 x y ps ps')) := by show _ = _; rw [HRA.out, hk, hl, if_neg hk1]; rfl
    rw [HR.out]
    clear HRA HR hk1
    obtain ⟨RES, hres⟩ : ∃ RES, RES = refAR h.k h.nm h'.k h'.nm 0 x y ps ps' := ⟨_, rfl⟩
    rw [← hres]
    have HRES := Lib.hid hres
    clear hres HI1 HI2
    cases hn : (h.n == h'.n)
    case false =>
      have hn' : (h.n != h'.n) = true := by simp [bne, hn]
      go_enter Tryd.func24, Tryd.ntmps24
      go_upto_region 1 with fail
      rw [← hW0]
      clear hW0
      generalize hnb : w.heap.size = nb at *
      have HNB := Lib.hid hnb
      clear hnb
      obtain ⟨⟨a0, a1, a2, a3, a4, a5, a6, a7, a8⟩, b0, b1, b2, b3, b4, b5, b6, b7, b8⟩ := HB.out W0 (Quiet0.refl _)
      go_wp2_with fail
      refine (HC.out _ (Quiet0.refl _)).mono ?_; rintro e w1 ⟨rfl, hq1⟩
      clear a0 a1 a2 a3 a4 a5 a6 a7 a8 b0 b1 b2 b3 b4 b5 b6 b7 b8
      obtain ⟨⟨a0, a1, a2, a3, a4, a5, a6, a7, a8⟩, b0, b1, b2, b3, b4, b5, b6, b7, b8⟩ := HB.out w1 hq1
      go_wp2_with fail
      go_ret
      exact ⟨rfl, HQ0.out.trans hq1⟩
    have hn' : (h.n != h'.n) = false := by simp [bne, hn]
    go_enter Tryd.func24, Tryd.ntmps24
    go_upto_region 1 with fail
    rw [← hW0]
    clear hW0
    generalize hnb : w.heap.size = nb at *
    have HNB := Lib.hid hnb
    clear hnb
    obtain ⟨⟨a0, a1, a2, a3, a4, a5, a6, a7, a8⟩, b0, b1, b2, b3, b4, b5, b6, b7, b8⟩ := HB.out W0 (Quiet0.refl _)
    go_wp2_with fail
    refine (HC.out _ (Quiet0.refl _)).mono ?_; rintro e w1 ⟨rfl, hq1⟩
    clear a0 a1 a2 a3 a4 a5 a6 a7 a8 b0 b1 b2 b3 b4 b5 b6 b7 b8
    obtain ⟨⟨a0, a1, a2, a3, a4, a5, a6, a7, a8⟩, b0, b1, b2, b3, b4, b5, b6, b7, b8⟩ := HB.out w1 hq1
    have HQ1 := Lib.hid hq1
    clear hq1
    go_wp2_with fail
    clear a0 a1 a2 a3 a4 a5 a6 a7 a8 b0 b1 b2 b3 b4 b5 b6 b7 b8 hk' hl' hn' hk hl hn hk1'
    go_loopw [8, 11] (fun s t wr => ∃ (i : Nat), s = .bool false ∧ t = .int .i64 i ∧ i ≤ l2 ∧ refAR h.k h.nm h'.k h'.nm i x y (ps.drop i) (ps'.drop i) = RES ∧ Quiet0 W0 wr) (fun _ t _ => l2 - (intOf t).toNat)
    case atStart => exact ⟨0, rfl, rfl, Nat.zero_le _, by rw [To.drop_zero, To.drop_zero, HRES.out], HQ1.out⟩
    case round =>
      obtain ⟨i, rfl, rfl, hi, hpe, hq⟩ := hrel
      have HPE := Lib.hid hpe
      have HQ := Lib.hid hq
      clear hpe hq
      obtain ⟨⟨a0, a1, a2, a3, a4, a5, a6, a7, a8⟩, b0, b1, b2, b3, b4, b5, b6, b7, b8⟩ := HB.out wr HQ.out
      by_cases hlt : i < l2
      · have hlt' : (i : Int) < l2 := by omega
        have hq0r := HQ0.out.trans HQ.out
        obtain ⟨b, off, hd, qs, p3, m3, d3, p4, m4, d4, rfl, hd1, hg, _, hc9, hs3, ht3⟩ := (HS.out).nth hlt
        obtain ⟨b', off', hd', qs', p5, m5, d5, p6, m6, d6, rfl, hd1', hg', _, hc9', hs5, ht5⟩ := (HS'.out).nth hlt
        have hsq := To.size_get ps i hd qs hg
        have HKP : Hid (∀ W, Quiet0 wr W → (W.cell? ⟨nb, 0, none⟩ = some (.int .i64 h.k) ∧ W.cell? ⟨nb, 1, none⟩ = some (.string h.nm) ∧ W.cell? ⟨nb, 2, none⟩ = some (.int .i64 h.n) ∧ W.cell? ⟨nb, 3, none⟩ = some (.int .i64 h.tk) ∧ W.cell? ⟨nb, 4, none⟩ = some (.int .i64 h.tn) ∧ W.cell? ⟨nb, 5, none⟩ = some (.slice o1 l1 c1) ∧ W.cell? ⟨nb, 6, none⟩ = some (.slice (some ⟨b, off, none⟩) l2 c2) ∧ W.cell? ⟨nb, 7, none⟩ = some (.int .i64 h.fr) ∧ W.cell? ⟨nb, 8, none⟩ = some (.int .i64 h.en)) ∧ (W.cell? ⟨nb + 1, 0, none⟩ = some (.int .i64 h'.k) ∧ W.cell? ⟨nb + 1, 1, none⟩ = some (.string h'.nm) ∧ W.cell? ⟨nb + 1, 2, none⟩ = some (.int .i64 h'.n) ∧ W.cell? ⟨nb + 1, 3, none⟩ = some (.int .i64 h'.tk) ∧ W.cell? ⟨nb + 1, 4, none⟩ = some (.int .i64 h'.tn) ∧ W.cell? ⟨nb + 1, 5, none⟩ = some (.slice p1 m1 d1) ∧ W.cell? ⟨nb + 1, 6, none⟩ = some (.slice (some ⟨b', off', none⟩) l2 d2) ∧ W.cell? ⟨nb + 1, 7, none⟩ = some (.int .i64 h'.fr) ∧ W.cell? ⟨nb + 1, 8, none⟩ = some (.int .i64 h'.en)) ∧ (W.cell? ⟨b, off + i * 9, none⟩ = some (.int .i64 hd.k) ∧ W.cell? ⟨b, off + i * 9 + 1, none⟩ = some (.string hd.nm) ∧ W.cell? ⟨b, off + i * 9 + 2, none⟩ = some (.int .i64 hd.n) ∧ W.cell? ⟨b, off + i * 9 + 3, none⟩ = some (.int .i64 hd.tk) ∧ W.cell? ⟨b, off + i * 9 + 4, none⟩ = some (.int .i64 hd.tn) ∧ W.cell? ⟨b, off + i * 9 + 5, none⟩ = some (.slice p3 m3 d3) ∧ W.cell? ⟨b, off + i * 9 + 6, none⟩ = some (.slice p4 m4 d4) ∧ W.cell? ⟨b, off + i * 9 + 7, none⟩ = some (.int .i64 hd.fr) ∧ W.cell? ⟨b, off + i * 9 + 8, none⟩ = some (.int .i64 hd.en)) ∧ (W.cell? ⟨b', off' + i * 9, none⟩ = some (.int .i64 hd'.k) ∧ W.cell? ⟨b', off' + i * 9 + 1, none⟩ = some (.string hd'.nm) ∧ W.cell? ⟨b', off' + i * 9 + 2, none⟩ = some (.int .i64 hd'.n) ∧ W.cell? ⟨b', off' + i * 9 + 3, none⟩ = some (.int .i64 hd'.tk) ∧ W.cell? ⟨b', off' + i * 9 + 4, none⟩ = some (.int .i64 hd'.tn) ∧ W.cell? ⟨b', off' + i * 9 + 5, none⟩ = some (.slice p5 m5 d5) ∧ W.cell? ⟨b', off' + i * 9 + 6, none⟩ = some (.slice p6 m6 d6) ∧ W.cell? ⟨b', off' + i * 9 + 7, none⟩ = some (.int .i64 hd'.fr) ∧ W.cell? ⟨b', off' + i * 9 + 8, none⟩ = some (.int .i64 hd'.en))) := fun W hq => ⟨(HB.out W (HQ.out.trans hq)).1, (HB.out W (HQ.out.trans hq)).2, hc9.fr (hq0r.trans hq) (fun h => h), hc9'.fr (hq0r.trans hq) (fun h => h)⟩
        have HAR1 : Hid (∀ W, Quiet0 wr W → Calls Tryd.prog 41 #[tmv h o1 l1 c1 (some ⟨b, off, none⟩) l2 c2, .int .i64 (i : Nat), .slice no nn nc] W (NmPost T W (envOf h.k h.nm i x))) := fun W hq => around_any h o1 l1 c1 _ l2 c2 i T x no nn nc W (HN.out.stay (hq0r.trans hq)) (by omega)
        have HAR2 : Hid (∀ W, Quiet0 wr W → Calls Tryd.prog 41 #[tmv h' p1 m1 d1 (some ⟨b', off', none⟩) l2 d2, .int .i64 (i : Nat), .slice no' nn' nc'] W (NmPost T' W (envOf h'.k h'.nm i y))) := fun W hq => around_any h' p1 m1 d1 _ l2 d2 i T' y no' nn' nc' W (HN'.out.stay (hq0r.trans hq)) (by omega)
        have henv : (envOf h.k h.nm i x).length ≤ nn + 1 := by have := HNL.out; unfold envOf; split <;> simp <;> omega
        have henv' : (envOf h'.k h'.nm i y).length ≤ nn' + 1 := by have := HNL'.out; unfold envOf; split <;> simp <;> omega
        have HFR : Hid (∀ (W : World) (T T' : Nat → Prop) (no : Option Addr) (nc : Nat) (no' : Option Addr) (nc' : Nat), NmIn T W no (envOf h.k h.nm i x).length (envOf h.k h.nm i x) → NmIn T' W no' (envOf h'.k h'.nm i y).length (envOf h'.k h'.nm i y) → Quiet0 wr W → Calls Tryd.prog 24 #[tmv hd p3 m3 d3 p4 m4 d4, tmv hd' p5 m5 d5 p6 m6 d6, .slice no (envOf h.k h.nm i x).length nc, .slice no' (envOf h'.k h'.nm i y).length nc'] W (fun e w' => e = .returned (.bool (refA1 (envOf h.k h.nm i x) (envOf h'.k h'.nm i y) hd qs hd' qs')) ∧ Quiet0 W w')) := fun W T T' no nc no' nc' hN hN' hq => IH.out i hd qs hg hd' qs' W R T T' p3 m3 d3 p4 m4 d4 p5 m5 d5 p6 m6 d6 no _ nc _ no' _ nc' _ (hs3.stay (hq0r.trans hq)) (ht3.stay (hq0r.trans hq)) (hs5.stay (hq0r.trans hq)) (ht5.stay (hq0r.trans hq)) hN hN' (by omega) (by omega)
        have HD : Hid ((refA1 (envOf h.k h.nm i x) (envOf h'.k h'.nm i y) hd qs hd' qs' && refAR h.k h.nm h'.k h'.nm (i + 1) x y (ps.drop (i + 1)) (ps'.drop (i + 1))) = RES) := by
          have := HPE.out; rw [hd1, hd1', refAR_cons] at this; exact this
        unfold tmv at HAR1 HAR2 HFR
        generalize envOf h.k h.nm i x = E at *
        generalize envOf h'.k h'.nm i y = E' at *
        generalize refA1 E E' hd qs hd' qs' = rb at *
        clear hd1 hd1' hg hg' hs3 ht3 hs5 ht5 hsq hc9 hc9' henv henv'
        go_upto_region 11 with fail
        clear a0 a1 a2 a3 a4 a5 a6 a7 a8 b0 b1 b2 b3 b4 b5 b6 b7 b8
        have hqc := Quiet0.refl wr
        go_region_held3 (fun W => (W.cell? ⟨nb, 0, none⟩ = some (.int .i64 h.k) ∧ W.cell? ⟨nb, 1, none⟩ = some (.string h.nm) ∧ W.cell? ⟨nb, 2, none⟩ = some (.int .i64 h.n) ∧ W.cell? ⟨nb, 3, none⟩ = some (.int .i64 h.tk) ∧ W.cell? ⟨nb, 4, none⟩ = some (.int .i64 h.tn) ∧ W.cell? ⟨nb, 5, none⟩ = some (.slice o1 l1 c1) ∧ W.cell? ⟨nb, 6, none⟩ = some (.slice (some ⟨b, off, none⟩) l2 c2) ∧ W.cell? ⟨nb, 7, none⟩ = some (.int .i64 h.fr) ∧ W.cell? ⟨nb, 8, none⟩ = some (.int .i64 h.en)) ∧ (W.cell? ⟨nb + 1, 0, none⟩ = some (.int .i64 h'.k) ∧ W.cell? ⟨nb + 1, 1, none⟩ = some (.string h'.nm) ∧ W.cell? ⟨nb + 1, 2, none⟩ = some (.int .i64 h'.n) ∧ W.cell? ⟨nb + 1, 3, none⟩ = some (.int .i64 h'.tk) ∧ W.cell? ⟨nb + 1, 4, none⟩ = some (.int .i64 h'.tn) ∧ W.cell? ⟨nb + 1, 5, none⟩ = some (.slice p1 m1 d1) ∧ W.cell? ⟨nb + 1, 6, none⟩ = some (.slice (some ⟨b', off', none⟩) l2 d2) ∧ W.cell? ⟨nb + 1, 7, none⟩ = some (.int .i64 h'.fr) ∧ W.cell? ⟨nb + 1, 8, none⟩ = some (.int .i64 h'.en)) ∧ (W.cell? ⟨b, off + i * 9, none⟩ = some (.int .i64 hd.k) ∧ W.cell? ⟨b, off + i * 9 + 1, none⟩ = some (.string hd.nm) ∧ W.cell? ⟨b, off + i * 9 + 2, none⟩ = some (.int .i64 hd.n) ∧ W.cell? ⟨b, off + i * 9 + 3, none⟩ = some (.int .i64 hd.tk) ∧ W.cell? ⟨b, off + i * 9 + 4, none⟩ = some (.int .i64 hd.tn) ∧ W.cell? ⟨b, off + i * 9 + 5, none⟩ = some (.slice p3 m3 d3) ∧ W.cell? ⟨b, off + i * 9 + 6, none⟩ = some (.slice p4 m4 d4) ∧ W.cell? ⟨b, off + i * 9 + 7, none⟩ = some (.int .i64 hd.fr) ∧ W.cell? ⟨b, off + i * 9 + 8, none⟩ = some (.int .i64 hd.en)) ∧ (W.cell? ⟨b', off' + i * 9, none⟩ = some (.int .i64 hd'.k) ∧ W.cell? ⟨b', off' + i * 9 + 1, none⟩ = some (.string hd'.nm) ∧ W.cell? ⟨b', off' + i * 9 + 2, none⟩ = some (.int .i64 hd'.n) ∧ W.cell? ⟨b', off' + i * 9 + 3, none⟩ = some (.int .i64 hd'.tk) ∧ W.cell? ⟨b', off' + i * 9 + 4, none⟩ = some (.int .i64 hd'.tn) ∧ W.cell? ⟨b', off' + i * 9 + 5, none⟩ = some (.slice p5 m5 d5) ∧ W.cell? ⟨b', off' + i * 9 + 6, none⟩ = some (.slice p6 m6 d6) ∧ W.cell? ⟨b', off' + i * 9 + 7, none⟩ = some (.int .i64 hd'.fr) ∧ W.cell? ⟨b', off' + i * 9 + 8, none⟩ = some (.int .i64 hd'.en)))
          (((refine HKP.out _ ?_); (repeat (first | with_reducible exact hqc | with_reducible exact Quiet0.refl _ | with_reducible refine Quiet0.trans ?_ (Quiet0.alloc _ _) | with_reducible refine Quiet0.trans ?_ (Quiet0.drew _) | fail))))
          (first
            | (go_at_call 41; (with_reducible refine Calls.mono (HAR1.out _ ?hq) ?_); (case hq => (repeat (first | with_reducible exact hqc | with_reducible exact Quiet0.refl _ | with_reducible refine Quiet0.trans ?_ (Quiet0.alloc _ _) | with_reducible refine Quiet0.trans ?_ (Quiet0.drew _) | fail))); rintro e wx ⟨no2, nc2, rfl, hn1, hqx⟩; (try (refine with_nm hn2 ?hq3 hqx ?_; (case hq3 => (repeat (first | with_reducible exact Quiet0.refl _ | with_reducible refine Quiet0.trans ?_ (Quiet0.alloc _ _) | with_reducible refine Quiet0.trans ?_ (Quiet0.drew _) | fail))); intro hn2)); (refine with_q (w0 := wr) ?hq2 hqx ?_); (case hq2 => (repeat (first | with_reducible exact hqc | with_reducible exact Quiet0.refl _ | with_reducible refine Quiet0.trans ?_ (Quiet0.alloc _ _) | with_reducible refine Quiet0.trans ?_ (Quiet0.drew _) | fail))); intro hqc)
            | (go_at_call 41; (with_reducible refine Calls.mono (HAR2.out _ ?hq) ?_); (case hq => (repeat (first | with_reducible exact hqc | with_reducible exact Quiet0.refl _ | with_reducible refine Quiet0.trans ?_ (Quiet0.alloc _ _) | with_reducible refine Quiet0.trans ?_ (Quiet0.drew _) | fail))); rintro e wx ⟨no3, nc3, rfl, hn2, hqx⟩; (try (refine with_nm hn1 ?hq3 hqx ?_; (case hq3 => (repeat (first | with_reducible exact Quiet0.refl _ | with_reducible refine Quiet0.trans ?_ (Quiet0.alloc _ _) | with_reducible refine Quiet0.trans ?_ (Quiet0.drew _) | fail))); intro hn1)); (refine with_q (w0 := wr) ?hq2 hqx ?_); (case hq2 => (repeat (first | with_reducible exact hqc | with_reducible exact Quiet0.refl _ | with_reducible refine Quiet0.trans ?_ (Quiet0.alloc _ _) | with_reducible refine Quiet0.trans ?_ (Quiet0.drew _) | fail))); intro hqc)
            | ((go_at_call 24; (with_reducible refine Calls.mono (HFR.out _ _ _ _ _ _ _ (hn1.stay ?hq3) (hn2.stay ?hq4) ?hq) ?_)); (case hq3 => (repeat (first | with_reducible exact Quiet0.refl _ | with_reducible refine Quiet0.trans ?_ (Quiet0.alloc _ _) | with_reducible refine Quiet0.trans ?_ (Quiet0.drew _) | fail))); (case hq4 => (repeat (first | with_reducible exact Quiet0.refl _ | with_reducible refine Quiet0.trans ?_ (Quiet0.alloc _ _) | with_reducible refine Quiet0.trans ?_ (Quiet0.drew _) | fail))); (case hq => (repeat (first | with_reducible exact hqc | with_reducible exact Quiet0.refl _ | with_reducible refine Quiet0.trans ?_ (Quiet0.alloc _ _) | with_reducible refine Quiet0.trans ?_ (Quiet0.drew _) | fail))); rintro e wx ⟨rfl, hqx⟩; (refine with_q (w0 := wr) ?hq2 hqx ?_); (case hq2 => (repeat (first | with_reducible exact hqc | with_reducible exact Quiet0.refl _ | with_reducible refine Quiet0.trans ?_ (Quiet0.alloc _ _) | with_reducible refine Quiet0.trans ?_ (Quiet0.drew _) | fail))); intro hqc)
            | fail)
        all_goals
          have HQ3 : Hid (Quiet0 W0 _) := HQ.out.trans hqc
          clear hqc hqx hn1 hn2
          cases rb
          · have HE : Hid (RES = false) := by show _ = _; rw [← HD.out]; rfl
            go_wp2_with fail
            go_ret
            exact ⟨by rw [HE.out]; rfl, HQ0.out.trans HQ3.out⟩
          · have HE : Hid (refAR h.k h.nm h'.k h'.nm (i + 1) x y (ps.drop (i + 1)) (ps'.drop (i + 1)) = RES) := by show _ = _; rw [← HD.out]; rfl
            go_wp2_with fail
            go_roundw
            case rel => exact ⟨i + 1, rfl, by go_num, by omega, HE.out, HQ3.out⟩
            case measure => simp [intOf]; omega
      · have hlt' : ¬ (i : Int) < l2 := by omega
        have HE : Hid (RES = true) := by
          have := HPE.out
          rw [To.drop_end ps i (by have := HL.out; omega), To.drop_end ps' i (by have := HL'.out; omega)] at this
          show _ = _
          rw [← this]; rfl
        go_wp2_with fail
        go_ret
        exact ⟨by rw [HE.out]; rfl, HQ0.out.trans HQ.out⟩
end Sc
end Go.Proofs.YtnfodiedalhlhaaDoor
end
section
namespace Go.Proofs.YtnfodiedalhlhaaDoor
open Go.RowKit Go.Shelf
namespace Sc
theorem box_after {W wx : World} {cs : Array Value} {t : TypeId} (h : Quiet0 (W.alloc (.cells cs t)) wx) : wx.heap[W.heap.size]? = some (.cells cs t (0, 0)) := blk_after h (heap_alloc_new W _)
theorem box_after_drew {W wx : World} {cs : Array Value} {t : TypeId} (h : Quiet0 (W.alloc (.cells cs t)).drew wx) : wx.heap[W.heap.size]? = some (.cells cs t (0, 0)) := blk_after h (blk_drew (heap_alloc_new W _))
def RCallT (h : Nd) (ps : To) : Prop := ∀ (w : World) (R T T' L : Nat → Prop) (o1 : Option Addr) (l1 c1 : Nat) (o2 : Option Addr) (l2 c2 : Nat) (no : Option Addr) (nn nc : Nat) (x : List ByteArray) (no' : Option Addr) (nc' : Nat) (y : List ByteArray) (lo : Option Addr) (lc : Nat) (l : List ByteArray),
  SlcIn R w o1 l1 h.tp → TSlc R w o2 l2 ps → NmIn T w no nn x → NmIn T' w no' nn y → StrT L w lo l → l.length ≤ lc → l.length ≤ 1000 → (∀ s ∈ l, s.size ≤ 1000) → nn + ps.size ≤ 200000 → (∀ k, R k → k < w.heap.size) → (∀ k, L k → k < w.heap.size) →
  Calls Tryd.prog 56 #[tmv h o1 l1 c1 o2 l2 c2, .slice no nn nc, .slice no' nn nc', .slice lo l.length lc] w (RcQ okN R L w x y l h ps o1 l1 c1 l2)
set_option maxRecDepth 100000 in
set_option maxHeartbeats 8000000 in
theorem rcall_var (h : Nd) (ps : To) (hk : h.k = 1) : RCallT h ps := by
  intro w R T T' L o1 l1 c1 o2 l2 c2 no nn nc x no' nc' y lo lc l hs1 hs hN hN' hL hlc hll hls hsz hRl hLl
  obtain ⟨W0, hW0⟩ : ∃ W0, W0 = (w.alloc (.cells (cells9 h o1 l1 c1 o2 l2 c2) 30)).alloc (.cells zero9 30) := ⟨_, rfl⟩
  have HQ0 : Hid (Quiet0 w W0) := by rw [hW0]; exact (Quiet0.alloc _ _).trans (Quiet0.alloc _ _)
  have HB0 : Hid (W0.heap[w.heap.size]? = some (.cells (cells9 h o1 l1 c1 o2 l2 c2) 30 (0, 0))) := by
    show _ = _; rw [hW0, Below.heap_alloc _ _ _ (by simp)]; exact heap_alloc_new w _
  have HB1 : Hid (W0.heap[w.heap.size + 1]? = some (.cells zero9 30 (0, 0))) := by
    show _ = _; rw [hW0]
    have := heap_alloc_new (w.alloc (.cells (cells9 h o1 l1 c1 o2 l2 c2) 30)) (.cells zero9 30)
    simpa using this
  have HZ : Hid (W0.heap.size = w.heap.size + 2) := by show _ = _; rw [hW0]; simp
  have HI := Lib.hid (refIndex_any T x h.nm no nn nc W0 (hN.stay HQ0.out) (by omega))
  have hk' : (h.k == 1) = true := by simp [hk]
  have HC1 : Hid (call1 okN x y l h ps = ({ h with nm := varNm x y h.nm }, ps, l)) := by show _ = _; unfold call1; rw [if_pos hk]
  have HTS := Lib.hid (hs.stay HQ0.out)
  have HLL := Lib.hid (hL.stay HQ0.out)
  have hge := ix_ge x h.nm
  have hnx : ix x h.nm < nn := by rw [hN.1]; exact hge.2
  replace hge := hge.1
  have HV : Hid (varNm x y h.nm = if 0 ≤ ix x h.nm then y.getD (ix x h.nm).toNat ByteArray.empty else h.nm) := rfl
  generalize ix x h.nm = r at *
  generalize varNm x y h.nm = nm2 at *
  have HLC := Lib.hid hlc
  have HRL := Lib.hid hRl
  have HLW := Lib.hid hLl
  have HFIN0 : Hid (∀ (W1 wf : World) (gg : Nd), gg = { h with nm := nm2 } → Fr (fun k => k = w.heap.size) W0 W1 → Fr (fun k => k = w.heap.size + 1) W1 wf → RcQ okN R L w x y l h ps o1 l1 c1 l2 (.returned (.tuple #[tmv gg o1 l1 c1 o2 l2 c2, .slice lo l.length lc])) wf) := by
    intro W1 wf gg hgg hf1 hf2
    subst hgg
    have hz := HZ.out
    have h1 := hf1.size
    refine ⟨o2, c2, lo, lc, by rw [HC1.out], ?_, ?_, by rw [HC1.out]; exact hlc, (HQ0.out.trans' hf1 (fun k hk h => by omega)).trans' hf2 (fun k hk h => by omega)⟩
    · rw [HC1.out]
      have h1 := HTS.out.fr (T := R) hf1 (fun k _ hk => ⟨hk, fun e => by have := hRl k hk; omega⟩)
      exact h1.fr hf2 (fun k _ hk => ⟨.inl hk, fun e => by have := hRl k hk; omega⟩)
    · rw [HC1.out]
      have h1 := HLL.out.fr (T' := L) hf1 (fun k _ hk => ⟨hk, fun e => by have := hLl k hk; omega⟩)
      exact h1.fr hf2 (fun k _ hk => ⟨hk, fun e => by have := hLl k hk; omega⟩)
  clear hk hlc hRl hLl hll HC1 HTS HLL HRL HLW HLC
  generalize l.length = ln at *
  unfold tmv at HFIN0
  unfold tmv
  go_enter Tryd.func56, Tryd.ntmps56
  go_upto_region 1 with fail
  rw [← hW0]
  clear hW0
  generalize hB : w.heap.size = B at *
  have HBE := Lib.hid hB
  clear hB
  obtain ⟨⟨x0, x1, x2, x3, x4, x5, x6, x7, x8⟩, y0, y1, y2, y3, y4, y5, y6, y7, y8⟩ := block9 HB0.out
  go_upto_region 2 with fail
  go_wp2_with fail
  refine HI.out.mono ?_; rintro x w2 ⟨rfl, rfl⟩
  by_cases hx : r ≥ 0
  · obtain ⟨k, rfl⟩ : ∃ k : Nat, r = k := ⟨r.toNat, by omega⟩
    obtain ⟨b, rfl, g0⟩ := nm_at (hN'.stay HQ0.out) k (by omega)
    have hidx : ((nn : Int) - 1 - (k : Int)).toNat = nn - 1 - k := by omega
    have hb1 : (0 : Int) ≤ (nn : Int) - 1 - (k : Int) := by omega
    have hb2 : (nn : Int) - 1 - (k : Int) < nn := by omega
    have hnn : nn ≤ 200000 := by omega
    have HNM : Hid (y.getD k ByteArray.empty = nm2) := by
      have h := HV.out
      rw [if_pos (by omega)] at h
      rw [h]; rfl
    rw [HNM.out] at g0
    clear HV
    go_upto_region 5 with fail
    have HBA : Hid ((W0.setCell ⟨B, 1, none⟩ (.string nm2)).heap[B]? = some (.cells (cells9 { h with nm := nm2 } o1 l1 c1 o2 l2 c2) 30 (0, 0))) := set_block (i := 1) (u := .string nm2) HB0.out
    have HFX : Hid (Fr (fun k => k = B) W0 (W0.setCell ⟨B, 1, none⟩ (.string nm2))) := Fr.setCell _ _ _ _ rfl
    clear x0 x1 x2 x3 x4 x5 x6 x7 x8 y0 y1 y2 y3 y4 y5 y6 y7 y8
    generalize W0.setCell ⟨B, 1, none⟩ (.string nm2) = W1 at *
    have HBZ : Hid (W1.heap[B + 1]? = some (.cells zero9 30 (0, 0))) := blk_fr HFX.out (by omega) HB1.out
    obtain ⟨⟨x0, x1, x2, x3, x4, x5, x6, x7, x8⟩, _⟩ := block9 HBA.out
    obtain ⟨⟨z0, z1, z2, z3, z4, z5, z6, z7, z8⟩, t0, t1, t2, t3, t4, t5, t6, t7, t8⟩ := block9 HBZ.out
    go_wp2_with fail
    have hff := put9_fr W1 (B + 1) (.int .i64 h.k) (.string nm2) (.int .i64 h.n) (.int .i64 h.tk) (.int .i64 h.tn) (.slice o1 l1 c1) (.slice o2 l2 c2) (.int .i64 h.fr) (.int .i64 h.en)
    have hbf := put9_block (a0 := .int .i64 h.k) (a1 := .string nm2) (a2 := .int .i64 h.n) (a3 := .int .i64 h.tk) (a4 := .int .i64 h.tn) (a5 := .slice o1 l1 c1) (a6 := .slice o2 l2 c2) (a7 := .int .i64 h.fr) (a8 := .int .i64 h.en) HBZ.out
    change bodyPost _ _ _ _ _ (put9 W1 (B + 1) (.int .i64 h.k) (.string nm2) (.int .i64 h.n) (.int .i64 h.tk) (.int .i64 h.tn) (.slice o1 l1 c1) (.slice o2 l2 c2) (.int .i64 h.fr) (.int .i64 h.en))
    clear x0 x1 x2 x3 x4 x5 x6 x7 x8 z0 z1 z2 z3 z4 z5 z6 z7 z8 t0 t1 t2 t3 t4 t5 t6 t7 t8
    generalize put9 W1 (B + 1) (.int .i64 h.k) (.string nm2) (.int .i64 h.n) (.int .i64 h.tk) (.int .i64 h.tn) (.slice o1 l1 c1) (.slice o2 l2 c2) (.int .i64 h.fr) (.int .i64 h.en) = wf at *
    obtain ⟨⟨x0, x1, x2, x3, x4, x5, x6, x7, x8⟩, _⟩ := block9 hbf
    have HFIN : Hid (RcQ okN R L w x y l h ps o1 l1 c1 l2 (.returned (.tuple #[.agg #[.int .i64 h.k, .string nm2, .int .i64 h.n, .int .i64 h.tk, .int .i64 h.tn, .slice o1 l1 c1, .slice o2 l2 c2, .int .i64 h.fr, .int .i64 h.en], .slice lo ln lc])) wf) := by
      exact HFIN0.out W1 wf _ rfl HFX.out hff
    clear hff hbf
    refine bodyPost_ret (by simp [results, Tryd.results56, go_sem, x0, x1, x2, x3, x4, x5, x6, x7, x8]; rfl) rfl ?_
    exact HFIN.out
  · have HNM : Hid (nm2 = h.nm) := by
      have h := HV.out
      rw [if_neg (by omega)] at h
      exact h
    clear HV y0 y1 y2 y3 y4 y5 y6 y7 y8
    obtain ⟨⟨z0, z1, z2, z3, z4, z5, z6, z7, z8⟩, t0, t1, t2, t3, t4, t5, t6, t7, t8⟩ := block9 HB1.out
    go_wp2_with fail
    have hff := put9_fr W0 (B + 1) (.int .i64 h.k) (.string h.nm) (.int .i64 h.n) (.int .i64 h.tk) (.int .i64 h.tn) (.slice o1 l1 c1) (.slice o2 l2 c2) (.int .i64 h.fr) (.int .i64 h.en)
    have hbf := put9_block (a0 := .int .i64 h.k) (a1 := .string h.nm) (a2 := .int .i64 h.n) (a3 := .int .i64 h.tk) (a4 := .int .i64 h.tn) (a5 := .slice o1 l1 c1) (a6 := .slice o2 l2 c2) (a7 := .int .i64 h.fr) (a8 := .int .i64 h.en) HB1.out
    change bodyPost _ _ _ _ _ (put9 W0 (B + 1) (.int .i64 h.k) (.string h.nm) (.int .i64 h.n) (.int .i64 h.tk) (.int .i64 h.tn) (.slice o1 l1 c1) (.slice o2 l2 c2) (.int .i64 h.fr) (.int .i64 h.en))
    clear x0 x1 x2 x3 x4 x5 x6 x7 x8 z0 z1 z2 z3 z4 z5 z6 z7 z8 t0 t1 t2 t3 t4 t5 t6 t7 t8
    generalize put9 W0 (B + 1) (.int .i64 h.k) (.string h.nm) (.int .i64 h.n) (.int .i64 h.tk) (.int .i64 h.tn) (.slice o1 l1 c1) (.slice o2 l2 c2) (.int .i64 h.fr) (.int .i64 h.en) = wf at *
    obtain ⟨⟨x0, x1, x2, x3, x4, x5, x6, x7, x8⟩, _⟩ := block9 hbf
    have HFIN : Hid (RcQ okN R L w x y l h ps o1 l1 c1 l2 (.returned (.tuple #[.agg #[.int .i64 h.k, .string h.nm, .int .i64 h.n, .int .i64 h.tk, .int .i64 h.tn, .slice o1 l1 c1, .slice o2 l2 c2, .int .i64 h.fr, .int .i64 h.en], .slice lo ln lc])) wf) := by
      exact HFIN0.out W0 wf h (by rw [HNM.out]) (Fr.refl _ _) hff
    clear hff hbf
    refine bodyPost_ret (by simp [results, Tryd.results56, go_sem, x0, x1, x2, x3, x4, x5, x6, x7, x8]; rfl) rfl ?_
    exact HFIN.out
def RcI (R L : Nat → Prop) (B : Nat) (W1 : World) (x y : List ByteArray) (h : Nd) (ps : To) (o1 : Option Addr) (l1 c1 l2 : Nat) (nm2 : ByteArray) (FP : To) (FL : List ByteArray) (s t : Value) (wr : World) : Prop :=
  ∃ (i : Nat) (f : To) (xs : List Value) (vo : Option Addr) (vc : Nat) (ro : Option Addr) (rc : Nat) (lr : List ByteArray), t = .int .i64 i ∧ s = .slice ro lr.length rc ∧ i ≤ l2 ∧ f.length = i ∧ f.app (callR okN h.k h.nm nm2 i x y lr (ps.drop i)).1 = FP ∧ (callR okN h.k h.nm nm2 i x y lr (ps.drop i)).2 = FL ∧
    TmRowT wr (fun k => R k ∨ B + 3 ≤ k) (.slice vo i vc) f xs ∧ (∀ k, (Value.slice vo i vc).ownBlock = some k → B + 3 ≤ k) ∧
    wr.heap[B]? = some (.cells (cells9 { h with nm := nm2 } o1 l1 c1 vo i vc) 30 (0, 0)) ∧ Fr (fun k => k = B) W1 wr ∧ (StrT L wr ro lr ∧ lr.length ≤ rc ∧ lr.length ≤ 1000 ∧ ∀ s ∈ lr, s.size ≤ 1000)
def RcM (R L : Nat → Prop) (wr : World) (g : Nd) (gp : To) (ls : List ByteArray) (p1 : Option Addr) (m1 d1 m2 : Nat) (v13 v14 : Value) (wx : World) : Prop :=
  ∃ (b : Nat) (r2 : Option Addr) (e2 : Nat) (ro : Option Addr) (rc : Nat), v13 = .pointer (some ⟨b, 0, none⟩) ∧ v14 = .slice ro ls.length rc ∧ wx.heap[b]? = some (.cells (cells9 g p1 m1 d1 r2 m2 e2) 30 (0, 0)) ∧ wr.heap.size ≤ b ∧
    TSlc (fun k => R k ∨ wr.heap.size ≤ k) wx r2 m2 gp ∧ StrT L wx ro ls ∧ ls.length ≤ rc ∧ Quiet0 wr wx
theorem RcM.drew {R L : Nat → Prop} {wr : World} {g : Nd} {gp : To} {ls : List ByteArray} {p1 : Option Addr} {m1 d1 m2 : Nat} {v13 v14 : Value} {wx : World} (h : RcM R L wr g gp ls p1 m1 d1 m2 v13 v14 wx) : RcM R L wr g gp ls p1 m1 d1 m2 v13 v14 wx.drew := by
  obtain ⟨b, r2, e2, ro, rc, h1, h2, h3, h4, h5, h6, h7, h8⟩ := h
  exact ⟨b, r2, e2, ro, rc, h1, h2, blk_after (Quiet0.drew _) h3, h4, h5.stay (Quiet0.drew _), h6.stay (Quiet0.drew _), h7, h8.trans (Quiet0.drew _)⟩
theorem rcm_new {R L : Nat → Prop} {wr W w3 : World} {g : Nd} {gp : To} {ls : List ByteArray} {p1 : Option Addr} {m1 d1 m2 : Nat} {r2 : Option Addr} {e2 : Nat} {ro : Option Addr} {rc : Nat} (hq : Quiet0 wr w3) (hW : wr.heap.size ≤ W.heap.size) (ht : TSlc (fun k => R k ∨ W.heap.size ≤ k) w3 r2 m2 gp) (hs : StrT L w3 ro ls) (hc : ls.length ≤ rc) :
    RcM R L wr g gp ls p1 m1 d1 m2 (.pointer (some ⟨w3.heap.size, 0, none⟩)) (.slice ro ls.length rc) (w3.alloc (.cells (cells9 g p1 m1 d1 r2 m2 e2) 30)) :=
  ⟨_, r2, e2, ro, rc, rfl, rfl, heap_alloc_new w3 _, Fr.size hq, (ht.mono (fun _ _ hk => hk.imp id (fun h => Nat.le_trans hW h))).stay (Quiet0.alloc _ _), hs.stay (Quiet0.alloc _ _), hc, hq.trans (Quiet0.alloc _ _)⟩
theorem rcm_old {R L : Nat → Prop} {wr W w3 : World} {b : Nat} {g : Nd} {gp : To} {ls : List ByteArray} {p1 : Option Addr} {m1 d1 m2 : Nat} {r2 : Option Addr} {e2 : Nat} {ro : Option Addr} {rc : Nat} (hb : w3.heap[b]? = some (.cells zero9 30 (0, 0))) (hwb : wr.heap.size ≤ b) (hbW : b < W.heap.size) (hR : ∀ k, R k → k < wr.heap.size) (hL : ∀ k, L k → k < wr.heap.size) (hq : Quiet0 wr w3) (hW : wr.heap.size ≤ W.heap.size) (ht : TSlc (fun k => R k ∨ W.heap.size ≤ k) w3 r2 m2 gp) (hs : StrT L w3 ro ls) (hc : ls.length ≤ rc) :
    RcM R L wr g gp ls p1 m1 d1 m2 (.pointer (some ⟨b, 0, none⟩)) (.slice ro ls.length rc) (put9 w3 b (.int .i64 g.k) (.string g.nm) (.int .i64 g.n) (.int .i64 g.tk) (.int .i64 g.tn) (.slice p1 m1 d1) (.slice r2 m2 e2) (.int .i64 g.fr) (.int .i64 g.en)) := by
  have hff := put9_fr w3 b (.int .i64 g.k) (.string g.nm) (.int .i64 g.n) (.int .i64 g.tk) (.int .i64 g.tn) (.slice p1 m1 d1) (.slice r2 m2 e2) (.int .i64 g.fr) (.int .i64 g.en)
  refine ⟨b, r2, e2, ro, rc, rfl, rfl, put9_block hb, hwb, ht.fr hff (fun k _ hk => ?_), hs.fr hff (fun k _ hk => ⟨hk, fun e => by have := hL k hk; omega⟩), hc, Fr.trans' hq hff (fun k hk e => by omega)⟩
  rcases hk with h | h
  · exact ⟨.inl h, fun e => by have := hR k h; omega⟩
  · exact ⟨.inr (Nat.le_trans hW h), fun e => by omega⟩
theorem nine_fr (n : Nat) (W : World) (b : Nat) (v0 v1 v2 v3 v4 v5 v6 v7 v8 : Value) (hb : n ≤ b) : Fr (fun j => n ≤ j) W (((((((((W.setCell ⟨b, 0, none⟩ v0).setCell ⟨b, 1, none⟩ v1).setCell ⟨b, 2, none⟩ v2).setCell ⟨b, 3, none⟩ v3).setCell ⟨b, 4, none⟩ v4).setCell ⟨b, 5, none⟩ v5).setCell ⟨b, 6, none⟩ v6).setCell ⟨b, 7, none⟩ v7).setCell ⟨b, 8, none⟩ v8) :=
  (put9_fr W b v0 v1 v2 v3 v4 v5 v6 v7 v8).mono (fun k _ h => by subst h; exact hb)
theorem nine_keep {wr wx : World} {b : Nat} {v0 v1 v2 v3 v4 v5 v6 v7 v8 : Value} (hq : Quiet0 wr wx) (hb : wr.heap.size ≤ b) : Fr (fun j => wr.heap.size ≤ j) wr (((((((((wx.setCell ⟨b, 0, none⟩ v0).setCell ⟨b, 1, none⟩ v1).setCell ⟨b, 2, none⟩ v2).setCell ⟨b, 3, none⟩ v3).setCell ⟨b, 4, none⟩ v4).setCell ⟨b, 5, none⟩ v5).setCell ⟨b, 6, none⟩ v6).setCell ⟨b, 7, none⟩ v7).setCell ⟨b, 8, none⟩ v8) :=
  hq.fr.trans (nine_fr _ _ _ _ _ _ _ _ _ _ _ _ hb)
theorem rcI_next {R L : Nat → Prop} {B : Nat} {W1 wr w2 w4 : World} {x y : List ByteArray} {h : Nd} {ps : To} {o1 : Option Addr} {l1 c1 l2 : Nat} {nm2 : ByteArray} {FP : To} {FL : List ByteArray} {i : Nat} {f : To} {xs : List Value} {vo : Option Addr} {vc g4 c4 : Nat} {gh : Nd} {gp : To} {p1 : Option Addr} {m1 d1 : Nat} {r2 : Option Addr} {m2 e2 : Nat} {ro : Option Addr} {rc : Nat} {ls : List ByteArray}
    (hi : i < l2) (hfl : f.length = i) (hap : (f.app (.cons gh gp .nil)).app (callR okN h.k h.nm nm2 (i + 1) x y ls (ps.drop (i + 1))).1 = FP) (hal : (callR okN h.k h.nm nm2 (i + 1) x y ls (ps.drop (i + 1))).2 = FL) (hrow : TmRowT wr (fun k => R k ∨ B + 3 ≤ k) (.slice vo i vc) f xs) (hlow : ∀ k, (Value.slice vo i vc).ownBlock = some k → B + 3 ≤ k)
    (hb : wr.heap[B]? = some (.cells (cells9 { h with nm := nm2 } o1 l1 c1 vo i vc) 30 (0, 0))) (hf : Fr (fun k => k = B) W1 wr) (hq : Quiet0 wr w2) (hsl : SlcIn R wr p1 m1 gh.tp) (ht : TSlc (fun k => R k ∨ wr.heap.size ≤ k) w2 r2 m2 gp) (hRl : ∀ k, R k → k < B) (hLl : ∀ k, L k → k < B) (hB : W1.heap.size = B + 3)
    (ho : w4.ownsRow 0 30 9 (.slice (some ⟨g4, 0, none⟩) (i + 1) c4) (i + 1) (xs ++ (cells9 gh p1 m1 d1 r2 m2 e2).toList)) (hf4 : Fr (fun k => (Value.slice vo i vc).ownBlock = some k) w2 w4) (hg4 : (Value.slice vo i vc).ownBlock = some g4 ∨ w2.heap.size ≤ g4)
    (hst : StrT L w2 ro ls) (hrc : ls.length ≤ rc) (hl1 : ls.length ≤ 1000) (hl2 : ∀ s ∈ ls, s.size ≤ 1000) :
    RcI R L B W1 x y h ps o1 l1 c1 l2 nm2 FP FL (.slice ro ls.length rc) (.int .i64 ((i : Int) + 1)) (w4.setCell ⟨B, 6, none⟩ (.slice (some ⟨g4, 0, none⟩) (i + 1) c4)) := by
  subst hfl
  have hwr := hf.size
  have hw2 := hq.size
  have hown : ∀ k, (Value.slice vo f.length vc).ownBlock = some k → k < wr.heap.size := fun k hk => (hrow.own.lt k hk).2
  have hr2 := TmRowT.snoc (c1 := d1) (c2 := e2) (hrow.stay hq) ((hsl.stay hq).mono (fun k _ hk => ⟨.inl hk, fun e => by have := hlow k e; have := hRl k hk; omega⟩)) (ht.mono (fun k _ hk => by
    rcases hk with h | h
    · exact ⟨.inl h, fun e => by have := hlow k e; have := hRl k h; omega⟩
    · exact ⟨.inr (by omega), fun e => by have := hown k e; omega⟩)) ho hf4 hg4 (fun k hk => .inr (by omega))
  have hfs := Fr.setCell (fun k => k = B) w4 ⟨B, 6, none⟩ (.slice (some ⟨g4, 0, none⟩) (f.length + 1) c4) rfl
  have hb4 := blk_fr hf4 (fun e => by have := hlow B e; omega) (blk_after hq hb)
  have hst4 : StrT L w4 ro ls := hst.fr hf4 (fun k _ hk => ⟨hk, fun e => by have := hlow k e; have := hLl k hk; omega⟩)
  refine ⟨f.length + 1, _, _, some ⟨g4, 0, none⟩, c4, ro, rc, ls, by go_num, rfl, by omega, by rw [To.app_length]; rfl, hap, hal, hr2.fr hfs (fun k hk e => by
    rcases hk with h | h
    · have := hRl k h; omega
    · omega), ?_, set_block (i := 6) (u := .slice (some ⟨g4, 0, none⟩) (f.length + 1) c4) hb4, ?_, hst4.fr hfs (fun k _ hk => ⟨hk, fun e => by have := hLl k hk; omega⟩), hrc, hl1, hl2⟩
  · intro k hk
    simp [Value.ownBlock] at hk
    subst hk
    rcases hg4 with h | h
    · exact hlow _ h
    · omega
  · exact ((hf.trans hq.fr).trans' hf4 (fun k hk e => by have := hlow k e; omega)).trans hfs
theorem rc_asz (w : World) (o : Obj) : (w.alloc o).heap.size = w.heap.size + 1 := by simp
theorem rc_dsz (w : World) : w.drew.heap.size = w.heap.size := rfl
end Sc
end Go.Proofs.YtnfodiedalhlhaaDoor
end
