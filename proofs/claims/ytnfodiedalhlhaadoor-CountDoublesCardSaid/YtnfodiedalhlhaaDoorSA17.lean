/-
  Texts laid together (ScRAlk, ScAlkLaw, TeLaid): what each one proves, and its conditions, stands at its head.
-/
import Derived.Deep.QuietTactic
import Derived.BigQuiet
import Derived.Deep.RegionLaw
import Derived.LaidMore
import Derived.Stop.Joined
import Derived.LaidLaws
import Derived.Lib.LaidTab
import Derived.Stop.LaidErr
import Derived.Test.YtnfodiedalhlhaaDoorRows
import Derived.Test.YtnfodiedalhlhaaDoorSA1
import Derived.Test.YtnfodiedalhlhaaDoorSA2
import Derived.Test.YtnfodiedalhlhaaDoorSA3
import Derived.Test.YtnfodiedalhlhaaDoorSA4
import Derived.Test.YtnfodiedalhlhaaDoorSA5
import Derived.Test.YtnfodiedalhlhaaDoorSA6
import Derived.Test.YtnfodiedalhlhaaDoorSA7
import Derived.Test.YtnfodiedalhlhaaDoorSA8
import Derived.Test.YtnfodiedalhlhaaDoorSA9
import Derived.Test.YtnfodiedalhlhaaDoorSA10
import Derived.Test.YtnfodiedalhlhaaDoorSA11
import Derived.Test.YtnfodiedalhlhaaDoorSA12
import Derived.Test.YtnfodiedalhlhaaDoorSA13
import Derived.Test.YtnfodiedalhlhaaDoorSA14
import Derived.Test.YtnfodiedalhlhaaDoorSA15
import Derived.Test.YtnfodiedalhlhaaDoorSA16
section
/-
  The document's Alike of two terms in two rows of names. Conditions: terms and names lie in memory as told; there are few.
-/
namespace Go.Proofs.YtnfodiedalhlhaaDoor
open Go.RowKit Go.Shelf
namespace Sc

theorem with_nm {T : Nat → Prop} {w W w3 : World} {o : Option Addr} {n : Nat} {e : List ByteArray} {G : Prop} (h : NmIn T w o n e) (hq : Quiet0 w W) (hqx : Quiet0 W w3) (k : NmIn T w3 o n e → G) : G := k (h.stay (hq.trans hqx))
def RAlkT (h : Nd) (ps : To) : Prop := ∀ (h' : Nd) (ps' : To) (w : World) (R T T' : Nat → Prop) (o1 : Option Addr) (l1 c1 : Nat) (o2 : Option Addr) (l2 c2 : Nat) (p1 : Option Addr) (m1 d1 : Nat) (p2 : Option Addr) (m2 d2 : Nat) (no : Option Addr) (nn nc : Nat) (x : List ByteArray) (no' : Option Addr) (nn' nc' : Nat) (y : List ByteArray),
  SlcIn R w o1 l1 h.tp → TSlc R w o2 l2 ps → SlcIn R w p1 m1 h'.tp → TSlc R w p2 m2 ps' → NmIn T w no nn x → NmIn T' w no' nn' y → nn + ps.size ≤ 200000 → nn' + ps.size ≤ 200000 →
  Calls Tryd.prog 24 #[tmv h o1 l1 c1 o2 l2 c2, tmv h' p1 m1 d1 p2 m2 d2, .slice no nn nc, .slice no' nn' nc'] w fun e w' => e = .returned (.bool (refA1 x y h ps h' ps')) ∧ Quiet0 w w'
set_option maxRecDepth 100000 in
set_option maxHeartbeats 8000000 in
theorem ref8Alike_any (h : Nd) (ps : To) : RAlkT h ps := by
  refine To.ind' (T := RAlkT) ?_ h ps
  intro h ps ih h' ps' w R T T' o1 l1 c1 o2 l2 c2 p1 m1 d1 p2 m2 d2 no nn nc x no' nn' nc' y hs1 hs hs1' hs' hN hN' hsz hsz'
  have IH := Lib.hid ih
  have HS := Lib.hid hs
  have HS' := Lib.hid hs'
  have HN := Lib.hid hN
  have HN' := Lib.hid hN'
  have HL := Lib.hid hs.1
  have HL' := Lib.hid hs'.1
  have hll := To.length_le ps
  rw [← hs.1] at hll
  have hmx := hs.2.1
  have hmx' := hs'.2.1
  unfold maxLen at hmx hmx'
  obtain ⟨W0, hW0⟩ : ∃ W0, W0 = (w.alloc (.cells (cells9 h o1 l1 c1 o2 l2 c2) 30)).alloc (.cells (cells9 h' p1 m1 d1 p2 m2 d2) 30) := ⟨_, rfl⟩
  have HB : Hid (∀ W, Quiet0 W0 W → Cells9 W w.heap.size 0 h o1 l1 c1 o2 l2 c2 ∧ Cells9 W (w.heap.size + 1) 0 h' p1 m1 d1 p2 m2 d2) := by
    intro W hq; rw [hW0] at hq; exact box92 w h o1 l1 c1 o2 l2 c2 h' p1 m1 d1 p2 m2 d2 _ W hq
  have HQ0 : Hid (Quiet0 w W0) := by rw [hW0]; exact (Quiet0.alloc _ _).trans (Quiet0.alloc _ _)
  have HC := Lib.hid (fun (W : World) (hq : Quiet0 W0 W) => refSame_any h.tk h.tn h.tp h'.tk h'.tn h'.tp W o1 l1 c1 p1 m1 d1 (hs1.slc.stay (HQ0.out.trans hq)) (hs1'.slc.stay (HQ0.out.trans hq)))
  have HI1 : Hid (∀ W, Quiet0 W0 W → Calls Tryd.prog 20 #[.slice no nn nc, .string h.nm] W fun z w' => z = .returned (.int .i64 (ix x h.nm)) ∧ W = w') := fun W hq => refIndex_any T x h.nm no nn nc W (hN.stay (HQ0.out.trans hq)) (by omega)
  have HI2 : Hid (∀ W, Quiet0 W0 W → Calls Tryd.prog 20 #[.slice no' nn' nc', .string h'.nm] W fun z w' => z = .returned (.int .i64 (ix y h'.nm)) ∧ W = w') := fun W hq => refIndex_any T' y h'.nm no' nn' nc' W (hN'.stay (HQ0.out.trans hq)) (by omega)
  have HNL := Lib.hid hN.1
  have HNL' := Lib.hid hN'.1
  unfold tyv at HC
  have HRA : Hid (refA1 x y h ps h' ps' = ((h.k == h'.k) && (l2 == m2) && sameT h.tk h.tn h.tp h'.tk h'.tn h'.tp && (if h.k = 1 then (ix x h.nm == ix y h'.nm) && (decide (0 ≤ ix x h.nm) || h.nm.toList == h'.nm.toList)
        else (h.n == h'.n) && refAR h.k h.nm h'.k h'.nm 0 x y ps ps'))) := by show _ = _; rw [hs.1, hs'.1]; rfl
  obtain ⟨res, hres⟩ : ∃ res, res = refA1 x y h ps h' ps' := ⟨_, rfl⟩
  rw [← hres]
  rw [← hres] at HRA
  clear hs1 hs hs1' hs' hN hN' ih hres
  generalize sameT h.tk h.tn h.tp h'.tk h'.tn h'.tp = sb at *
  have e1 : ∀ a b : Nat, ((a : Int) != (b : Int)) = !(a == b) := fun a b => by
    rw [bne]; congr 1; rw [Bool.eq_iff_iff, beq_iff_eq, beq_iff_eq]; omega
  have E1 := Lib.hid e1
  clear e1
  unfold tmv
  cases hk : (h.k == h'.k)
  case false =>
    have hk' : (h.k != h'.k) = true := by simp [bne, hk]
    have HR : Hid (res = false) := by show _ = _; rw [HRA.out, hk]; rfl
    clear HRA
    rw [HR.out]
    go_enter Tryd.func24, Tryd.ntmps24
    go_upto_region 1 with fail
    rw [← hW0]
    clear hW0
    generalize hnb : w.heap.size = nb at *
    have HNB := Lib.hid hnb
    clear hnb
    obtain ⟨⟨a0, a1, a2, a3, a4, a5, a6, a7, a8⟩, b0, b1, b2, b3, b4, b5, b6, b7, b8⟩ := HB.out W0 (Quiet0.refl _)
    go_wp2_with fail
    go_ret
    exact ⟨rfl, HQ0.out⟩
  have hk' : (h.k != h'.k) = false := by simp [bne, hk]
  cases hl : (l2 == m2)
  case false =>
    have hl' : ((l2 : Int) != (m2 : Int)) = true := by rw [E1.out, hl]; rfl
    have HR : Hid (res = false) := by show _ = _; rw [HRA.out, hk, hl]; rfl
    clear HRA
    rw [HR.out]
    go_enter Tryd.func24, Tryd.ntmps24
    go_upto_region 1 with fail
    rw [← hW0]
    clear hW0
    generalize hnb : w.heap.size = nb at *
    have HNB := Lib.hid hnb
    clear hnb
    obtain ⟨⟨a0, a1, a2, a3, a4, a5, a6, a7, a8⟩, b0, b1, b2, b3, b4, b5, b6, b7, b8⟩ := HB.out W0 (Quiet0.refl _)
    go_wp2_with fail
    go_ret
    exact ⟨rfl, HQ0.out⟩
  have hl' : ((l2 : Int) != (m2 : Int)) = false := by rw [E1.out, hl]; rfl
  have HLM : Hid (l2 = m2) := by show _ = _; simpa using hl
  cases sb
  case false =>
    have HR : Hid (res = false) := by show _ = _; rw [HRA.out, hk, hl]; rfl
    clear HRA
    rw [HR.out]
    go_enter Tryd.func24, Tryd.ntmps24
    go_upto_region 1 with fail
    rw [← hW0]
    clear hW0
    generalize hnb : w.heap.size = nb at *
    have HNB := Lib.hid hnb
    clear hnb
    obtain ⟨⟨a0, a1, a2, a3, a4, a5, a6, a7, a8⟩, b0, b1, b2, b3, b4, b5, b6, b7, b8⟩ := HB.out W0 (Quiet0.refl _)
    go_wp2_with fail
    refine (HC.out _ (Quiet0.refl _)).mono ?_; rintro e w1 ⟨rfl, hq1⟩
    go_wp2_with fail
    go_ret
    exact ⟨rfl, HQ0.out.trans hq1⟩
  by_cases hk1 : h.k = 1
  · have hk1' : (h.k == 1) = true := by simp [hk1]
    have HR : Hid (res = ((ix x h.nm == ix y h'.nm) && (decide (0 ≤ ix x h.nm) || h.nm.toList == h'.nm.toList))) := by show _ = _; rw [HRA.out, hk, hl, if_pos hk1]; rfl
    clear HRA hk1 IH
    generalize ix x h.nm = r1 at *
    generalize ix y h'.nm = r2 at *
    go_enter Tryd.func24, Tryd.ntmps24
    go_upto_region 1 with fail
    rw [← hW0]
    clear hW0
    generalize hnb : w.heap.size = nb at *
    have HNB := Lib.hid hnb
    clear hnb
    obtain ⟨⟨a0, a1, a2, a3, a4, a5, a6, a7, a8⟩, b0, b1, b2, b3, b4, b5, b6, b7, b8⟩ := HB.out W0 (Quiet0.refl _)
    go_wp2_with fail
    refine (HC.out _ (Quiet0.refl _)).mono ?_; rintro e w1 ⟨rfl, hq1⟩
    clear a0 a1 a2 a3 a4 a5 a6 a7 a8 b0 b1 b2 b3 b4 b5 b6 b7 b8
    obtain ⟨⟨a0, a1, a2, a3, a4, a5, a6, a7, a8⟩, b0, b1, b2, b3, b4, b5, b6, b7, b8⟩ := HB.out w1 hq1
    have HQ1 := Lib.hid hq1
    clear hq1
    go_upto_region 4 with fail
    have HJ1 : Hid (∀ n, Calls Tryd.prog 20 #[.slice no nn nc, .string h.nm] (w1.drewN n) fun z w' => z = .returned (.int .i64 r1) ∧ ∃ m, w' = w1.drewN m) := fun n => (HI1.out _ (HQ1.out.trans (Quiet0.drewN _ _))).mono (fun _ _ hh => ⟨hh.1, n, hh.2.symm⟩)
    have HJ2 : Hid (∀ n, Calls Tryd.prog 20 #[.slice no' nn' nc', .string h'.nm] (w1.drewN n) fun z w' => z = .returned (.int .i64 r2) ∧ ∃ m, w' = w1.drewN m) := fun n => (HI2.out _ (HQ1.out.trans (Quiet0.drewN _ _))).mono (fun _ _ hh => ⟨hh.1, n, hh.2.symm⟩)
    go_quiet ((go_at_call 20; first | with_reducible exact HJ1.out _ | with_reducible exact HJ2.out _))
    have HQ2 : Hid (Quiet0 w (w1.drewN nq)) := HQ0.out.trans (HQ1.out.trans (Quiet0.drewN _ _))
    clear HJ1 HJ2 HI1 HI2
    cases he : (r1 == r2)
    · have HE : Hid (res = false) := by show _ = _; rw [HR.out, he]; rfl
      go_wp2_with fail
      go_ret
      exact ⟨by rw [HE.out]; rfl, HQ2.out⟩
    · by_cases h0 : r1 ≥ 0
      · have h0' : decide (r1 ≥ 0) = true := by simp [h0]
        have HE : Hid (res = true) := by show _ = _; rw [HR.out, he]; have : decide (0 ≤ r1) = true := h0'; rw [this]; rfl
        go_wp2_with fail
        go_ret
        exact ⟨by rw [HE.out]; rfl, HQ2.out⟩
      · have h0' : decide (r1 ≥ 0) = false := by simp [h0]
        have HE : Hid (res = (h.nm.toList == h'.nm.toList)) := by show _ = _; rw [HR.out, he]; have : decide (0 ≤ r1) = false := h0'; rw [this]; rfl
        go_wp2_with fail
        go_ret
        exact ⟨by rw [HE.out]; rfl, HQ2.out⟩
  · have hk1' : (h.k == 1) = false := by simp [hk1]
    have hlm := HLM.out
    subst hlm
    have HR : Hid (res = ((h.n == h'.n) && refAR h.k h.nm h'.k h'.nm 0 x y ps ps')) := by show _ = _; rw [HRA.out, hk, hl, if_neg hk1]; rfl
    rw [HR.out]
    clear HRA HR hk1
    obtain ⟨RES, hres⟩ : ∃ RES, RES = refAR h.k h.nm h'.k h'.nm 0 x y ps ps' := ⟨_, rfl⟩
    rw [← hres]
    have HRES := Lib.hid hres
    clear hres HI1 HI2
    cases hn : (h.n == h'.n)
    case false =>
      have hn' : (h.n != h'.n) = true := by simp [bne, hn]
      go_enter Tryd.func24, Tryd.ntmps24
      go_upto_region 1 with fail
      rw [← hW0]
      clear hW0
      generalize hnb : w.heap.size = nb at *
      have HNB := Lib.hid hnb
      clear hnb
      obtain ⟨⟨a0, a1, a2, a3, a4, a5, a6, a7, a8⟩, b0, b1, b2, b3, b4, b5, b6, b7, b8⟩ := HB.out W0 (Quiet0.refl _)
      go_wp2_with fail
      refine (HC.out _ (Quiet0.refl _)).mono ?_; rintro e w1 ⟨rfl, hq1⟩
      clear a0 a1 a2 a3 a4 a5 a6 a7 a8 b0 b1 b2 b3 b4 b5 b6 b7 b8
      obtain ⟨⟨a0, a1, a2, a3, a4, a5, a6, a7, a8⟩, b0, b1, b2, b3, b4, b5, b6, b7, b8⟩ := HB.out w1 hq1
      go_wp2_with fail
      go_ret
      exact ⟨rfl, HQ0.out.trans hq1⟩
    have hn' : (h.n != h'.n) = false := by simp [bne, hn]
    go_enter Tryd.func24, Tryd.ntmps24
    go_upto_region 1 with fail
    rw [← hW0]
    clear hW0
    generalize hnb : w.heap.size = nb at *
    have HNB := Lib.hid hnb
    clear hnb
    obtain ⟨⟨a0, a1, a2, a3, a4, a5, a6, a7, a8⟩, b0, b1, b2, b3, b4, b5, b6, b7, b8⟩ := HB.out W0 (Quiet0.refl _)
    go_wp2_with fail
    refine (HC.out _ (Quiet0.refl _)).mono ?_; rintro e w1 ⟨rfl, hq1⟩
    clear a0 a1 a2 a3 a4 a5 a6 a7 a8 b0 b1 b2 b3 b4 b5 b6 b7 b8
    obtain ⟨⟨a0, a1, a2, a3, a4, a5, a6, a7, a8⟩, b0, b1, b2, b3, b4, b5, b6, b7, b8⟩ := HB.out w1 hq1
    have HQ1 := Lib.hid hq1
    clear hq1
    go_wp2_with fail
    clear a0 a1 a2 a3 a4 a5 a6 a7 a8 b0 b1 b2 b3 b4 b5 b6 b7 b8 hk' hl' hn' hk hl hn hk1'
    go_loopw [8, 11] (fun s t wr => ∃ (i : Nat), s = .bool false ∧ t = .int .i64 i ∧ i ≤ l2 ∧ refAR h.k h.nm h'.k h'.nm i x y (ps.drop i) (ps'.drop i) = RES ∧ Quiet0 W0 wr) (fun _ t _ => l2 - (intOf t).toNat)
    case atStart => exact ⟨0, rfl, rfl, Nat.zero_le _, by rw [To.drop_zero, To.drop_zero, HRES.out], HQ1.out⟩
    case round =>
      obtain ⟨i, rfl, rfl, hi, hpe, hq⟩ := hrel
      have HPE := Lib.hid hpe
      have HQ := Lib.hid hq
      clear hpe hq
      obtain ⟨⟨a0, a1, a2, a3, a4, a5, a6, a7, a8⟩, b0, b1, b2, b3, b4, b5, b6, b7, b8⟩ := HB.out wr HQ.out
      by_cases hlt : i < l2
      · have hlt' : (i : Int) < l2 := by omega
        have hq0r := HQ0.out.trans HQ.out
        obtain ⟨b, off, hd, qs, p3, m3, d3, p4, m4, d4, rfl, hd1, hg, _, hc9, hs3, ht3⟩ := (HS.out).nth hlt
        obtain ⟨b', off', hd', qs', p5, m5, d5, p6, m6, d6, rfl, hd1', hg', _, hc9', hs5, ht5⟩ := (HS'.out).nth hlt
        have hsq := To.size_get ps i hd qs hg
        have HKP : Hid (∀ W, Quiet0 wr W → (W.cell? ⟨nb, 0, none⟩ = some (.int .i64 h.k) ∧ W.cell? ⟨nb, 1, none⟩ = some (.string h.nm) ∧ W.cell? ⟨nb, 2, none⟩ = some (.int .i64 h.n) ∧ W.cell? ⟨nb, 3, none⟩ = some (.int .i64 h.tk) ∧ W.cell? ⟨nb, 4, none⟩ = some (.int .i64 h.tn) ∧ W.cell? ⟨nb, 5, none⟩ = some (.slice o1 l1 c1) ∧ W.cell? ⟨nb, 6, none⟩ = some (.slice (some ⟨b, off, none⟩) l2 c2) ∧ W.cell? ⟨nb, 7, none⟩ = some (.int .i64 h.fr) ∧ W.cell? ⟨nb, 8, none⟩ = some (.int .i64 h.en)) ∧ (W.cell? ⟨nb + 1, 0, none⟩ = some (.int .i64 h'.k) ∧ W.cell? ⟨nb + 1, 1, none⟩ = some (.string h'.nm) ∧ W.cell? ⟨nb + 1, 2, none⟩ = some (.int .i64 h'.n) ∧ W.cell? ⟨nb + 1, 3, none⟩ = some (.int .i64 h'.tk) ∧ W.cell? ⟨nb + 1, 4, none⟩ = some (.int .i64 h'.tn) ∧ W.cell? ⟨nb + 1, 5, none⟩ = some (.slice p1 m1 d1) ∧ W.cell? ⟨nb + 1, 6, none⟩ = some (.slice (some ⟨b', off', none⟩) l2 d2) ∧ W.cell? ⟨nb + 1, 7, none⟩ = some (.int .i64 h'.fr) ∧ W.cell? ⟨nb + 1, 8, none⟩ = some (.int .i64 h'.en)) ∧ (W.cell? ⟨b, off + i * 9, none⟩ = some (.int .i64 hd.k) ∧ W.cell? ⟨b, off + i * 9 + 1, none⟩ = some (.string hd.nm) ∧ W.cell? ⟨b, off + i * 9 + 2, none⟩ = some (.int .i64 hd.n) ∧ W.cell? ⟨b, off + i * 9 + 3, none⟩ = some (.int .i64 hd.tk) ∧ W.cell? ⟨b, off + i * 9 + 4, none⟩ = some (.int .i64 hd.tn) ∧ W.cell? ⟨b, off + i * 9 + 5, none⟩ = some (.slice p3 m3 d3) ∧ W.cell? ⟨b, off + i * 9 + 6, none⟩ = some (.slice p4 m4 d4) ∧ W.cell? ⟨b, off + i * 9 + 7, none⟩ = some (.int .i64 hd.fr) ∧ W.cell? ⟨b, off + i * 9 + 8, none⟩ = some (.int .i64 hd.en)) ∧ (W.cell? ⟨b', off' + i * 9, none⟩ = some (.int .i64 hd'.k) ∧ W.cell? ⟨b', off' + i * 9 + 1, none⟩ = some (.string hd'.nm) ∧ W.cell? ⟨b', off' + i * 9 + 2, none⟩ = some (.int .i64 hd'.n) ∧ W.cell? ⟨b', off' + i * 9 + 3, none⟩ = some (.int .i64 hd'.tk) ∧ W.cell? ⟨b', off' + i * 9 + 4, none⟩ = some (.int .i64 hd'.tn) ∧ W.cell? ⟨b', off' + i * 9 + 5, none⟩ = some (.slice p5 m5 d5) ∧ W.cell? ⟨b', off' + i * 9 + 6, none⟩ = some (.slice p6 m6 d6) ∧ W.cell? ⟨b', off' + i * 9 + 7, none⟩ = some (.int .i64 hd'.fr) ∧ W.cell? ⟨b', off' + i * 9 + 8, none⟩ = some (.int .i64 hd'.en))) := fun W hq => ⟨(HB.out W (HQ.out.trans hq)).1, (HB.out W (HQ.out.trans hq)).2, hc9.fr (hq0r.trans hq) (fun h => h), hc9'.fr (hq0r.trans hq) (fun h => h)⟩
        have HAR1 : Hid (∀ W, Quiet0 wr W → Calls Tryd.prog 41 #[tmv h o1 l1 c1 (some ⟨b, off, none⟩) l2 c2, .int .i64 (i : Nat), .slice no nn nc] W (NmPost T W (envOf h.k h.nm i x))) := fun W hq => around_any h o1 l1 c1 _ l2 c2 i T x no nn nc W (HN.out.stay (hq0r.trans hq)) (by omega)
        have HAR2 : Hid (∀ W, Quiet0 wr W → Calls Tryd.prog 41 #[tmv h' p1 m1 d1 (some ⟨b', off', none⟩) l2 d2, .int .i64 (i : Nat), .slice no' nn' nc'] W (NmPost T' W (envOf h'.k h'.nm i y))) := fun W hq => around_any h' p1 m1 d1 _ l2 d2 i T' y no' nn' nc' W (HN'.out.stay (hq0r.trans hq)) (by omega)
        have henv : (envOf h.k h.nm i x).length ≤ nn + 1 := by have := HNL.out; unfold envOf; split <;> simp <;> omega
        have henv' : (envOf h'.k h'.nm i y).length ≤ nn' + 1 := by have := HNL'.out; unfold envOf; split <;> simp <;> omega
        have HFR : Hid (∀ (W : World) (T T' : Nat → Prop) (no : Option Addr) (nc : Nat) (no' : Option Addr) (nc' : Nat), NmIn T W no (envOf h.k h.nm i x).length (envOf h.k h.nm i x) → NmIn T' W no' (envOf h'.k h'.nm i y).length (envOf h'.k h'.nm i y) → Quiet0 wr W → Calls Tryd.prog 24 #[tmv hd p3 m3 d3 p4 m4 d4, tmv hd' p5 m5 d5 p6 m6 d6, .slice no (envOf h.k h.nm i x).length nc, .slice no' (envOf h'.k h'.nm i y).length nc'] W (fun e w' => e = .returned (.bool (refA1 (envOf h.k h.nm i x) (envOf h'.k h'.nm i y) hd qs hd' qs')) ∧ Quiet0 W w')) := fun W T T' no nc no' nc' hN hN' hq => IH.out i hd qs hg hd' qs' W R T T' p3 m3 d3 p4 m4 d4 p5 m5 d5 p6 m6 d6 no _ nc _ no' _ nc' _ (hs3.stay (hq0r.trans hq)) (ht3.stay (hq0r.trans hq)) (hs5.stay (hq0r.trans hq)) (ht5.stay (hq0r.trans hq)) hN hN' (by omega) (by omega)
        have HD : Hid ((refA1 (envOf h.k h.nm i x) (envOf h'.k h'.nm i y) hd qs hd' qs' && refAR h.k h.nm h'.k h'.nm (i + 1) x y (ps.drop (i + 1)) (ps'.drop (i + 1))) = RES) := by
          have := HPE.out; rw [hd1, hd1', refAR_cons] at this; exact this
        unfold tmv at HAR1 HAR2 HFR
        generalize envOf h.k h.nm i x = E at *
        generalize envOf h'.k h'.nm i y = E' at *
        generalize refA1 E E' hd qs hd' qs' = rb at *
        clear hd1 hd1' hg hg' hs3 ht3 hs5 ht5 hsq hc9 hc9' henv henv'
        go_upto_region 11 with fail
        clear a0 a1 a2 a3 a4 a5 a6 a7 a8 b0 b1 b2 b3 b4 b5 b6 b7 b8
        have hqc := Quiet0.refl wr
        go_region_held3 (fun W => (W.cell? ⟨nb, 0, none⟩ = some (.int .i64 h.k) ∧ W.cell? ⟨nb, 1, none⟩ = some (.string h.nm) ∧ W.cell? ⟨nb, 2, none⟩ = some (.int .i64 h.n) ∧ W.cell? ⟨nb, 3, none⟩ = some (.int .i64 h.tk) ∧ W.cell? ⟨nb, 4, none⟩ = some (.int .i64 h.tn) ∧ W.cell? ⟨nb, 5, none⟩ = some (.slice o1 l1 c1) ∧ W.cell? ⟨nb, 6, none⟩ = some (.slice (some ⟨b, off, none⟩) l2 c2) ∧ W.cell? ⟨nb, 7, none⟩ = some (.int .i64 h.fr) ∧ W.cell? ⟨nb, 8, none⟩ = some (.int .i64 h.en)) ∧ (W.cell? ⟨nb + 1, 0, none⟩ = some (.int .i64 h'.k) ∧ W.cell? ⟨nb + 1, 1, none⟩ = some (.string h'.nm) ∧ W.cell? ⟨nb + 1, 2, none⟩ = some (.int .i64 h'.n) ∧ W.cell? ⟨nb + 1, 3, none⟩ = some (.int .i64 h'.tk) ∧ W.cell? ⟨nb + 1, 4, none⟩ = some (.int .i64 h'.tn) ∧ W.cell? ⟨nb + 1, 5, none⟩ = some (.slice p1 m1 d1) ∧ W.cell? ⟨nb + 1, 6, none⟩ = some (.slice (some ⟨b', off', none⟩) l2 d2) ∧ W.cell? ⟨nb + 1, 7, none⟩ = some (.int .i64 h'.fr) ∧ W.cell? ⟨nb + 1, 8, none⟩ = some (.int .i64 h'.en)) ∧ (W.cell? ⟨b, off + i * 9, none⟩ = some (.int .i64 hd.k) ∧ W.cell? ⟨b, off + i * 9 + 1, none⟩ = some (.string hd.nm) ∧ W.cell? ⟨b, off + i * 9 + 2, none⟩ = some (.int .i64 hd.n) ∧ W.cell? ⟨b, off + i * 9 + 3, none⟩ = some (.int .i64 hd.tk) ∧ W.cell? ⟨b, off + i * 9 + 4, none⟩ = some (.int .i64 hd.tn) ∧ W.cell? ⟨b, off + i * 9 + 5, none⟩ = some (.slice p3 m3 d3) ∧ W.cell? ⟨b, off + i * 9 + 6, none⟩ = some (.slice p4 m4 d4) ∧ W.cell? ⟨b, off + i * 9 + 7, none⟩ = some (.int .i64 hd.fr) ∧ W.cell? ⟨b, off + i * 9 + 8, none⟩ = some (.int .i64 hd.en)) ∧ (W.cell? ⟨b', off' + i * 9, none⟩ = some (.int .i64 hd'.k) ∧ W.cell? ⟨b', off' + i * 9 + 1, none⟩ = some (.string hd'.nm) ∧ W.cell? ⟨b', off' + i * 9 + 2, none⟩ = some (.int .i64 hd'.n) ∧ W.cell? ⟨b', off' + i * 9 + 3, none⟩ = some (.int .i64 hd'.tk) ∧ W.cell? ⟨b', off' + i * 9 + 4, none⟩ = some (.int .i64 hd'.tn) ∧ W.cell? ⟨b', off' + i * 9 + 5, none⟩ = some (.slice p5 m5 d5) ∧ W.cell? ⟨b', off' + i * 9 + 6, none⟩ = some (.slice p6 m6 d6) ∧ W.cell? ⟨b', off' + i * 9 + 7, none⟩ = some (.int .i64 hd'.fr) ∧ W.cell? ⟨b', off' + i * 9 + 8, none⟩ = some (.int .i64 hd'.en)))
          (((refine HKP.out _ ?_); (repeat (first | with_reducible exact hqc | with_reducible exact Quiet0.refl _ | with_reducible refine Quiet0.trans ?_ (Quiet0.alloc _ _) | with_reducible refine Quiet0.trans ?_ (Quiet0.drew _) | fail))))
          (first
            | (go_at_call 41; (with_reducible refine Calls.mono (HAR1.out _ ?hq) ?_); (case hq => (repeat (first | with_reducible exact hqc | with_reducible exact Quiet0.refl _ | with_reducible refine Quiet0.trans ?_ (Quiet0.alloc _ _) | with_reducible refine Quiet0.trans ?_ (Quiet0.drew _) | fail))); rintro e wx ⟨no2, nc2, rfl, hn1, hqx⟩; (try (refine with_nm hn2 ?hq3 hqx ?_; (case hq3 => (repeat (first | with_reducible exact Quiet0.refl _ | with_reducible refine Quiet0.trans ?_ (Quiet0.alloc _ _) | with_reducible refine Quiet0.trans ?_ (Quiet0.drew _) | fail))); intro hn2)); (refine with_q (w0 := wr) ?hq2 hqx ?_); (case hq2 => (repeat (first | with_reducible exact hqc | with_reducible exact Quiet0.refl _ | with_reducible refine Quiet0.trans ?_ (Quiet0.alloc _ _) | with_reducible refine Quiet0.trans ?_ (Quiet0.drew _) | fail))); intro hqc)
            | (go_at_call 41; (with_reducible refine Calls.mono (HAR2.out _ ?hq) ?_); (case hq => (repeat (first | with_reducible exact hqc | with_reducible exact Quiet0.refl _ | with_reducible refine Quiet0.trans ?_ (Quiet0.alloc _ _) | with_reducible refine Quiet0.trans ?_ (Quiet0.drew _) | fail))); rintro e wx ⟨no3, nc3, rfl, hn2, hqx⟩; (try (refine with_nm hn1 ?hq3 hqx ?_; (case hq3 => (repeat (first | with_reducible exact Quiet0.refl _ | with_reducible refine Quiet0.trans ?_ (Quiet0.alloc _ _) | with_reducible refine Quiet0.trans ?_ (Quiet0.drew _) | fail))); intro hn1)); (refine with_q (w0 := wr) ?hq2 hqx ?_); (case hq2 => (repeat (first | with_reducible exact hqc | with_reducible exact Quiet0.refl _ | with_reducible refine Quiet0.trans ?_ (Quiet0.alloc _ _) | with_reducible refine Quiet0.trans ?_ (Quiet0.drew _) | fail))); intro hqc)
            | ((go_at_call 24; (with_reducible refine Calls.mono (HFR.out _ _ _ _ _ _ _ (hn1.stay ?hq3) (hn2.stay ?hq4) ?hq) ?_)); (case hq3 => (repeat (first | with_reducible exact Quiet0.refl _ | with_reducible refine Quiet0.trans ?_ (Quiet0.alloc _ _) | with_reducible refine Quiet0.trans ?_ (Quiet0.drew _) | fail))); (case hq4 => (repeat (first | with_reducible exact Quiet0.refl _ | with_reducible refine Quiet0.trans ?_ (Quiet0.alloc _ _) | with_reducible refine Quiet0.trans ?_ (Quiet0.drew _) | fail))); (case hq => (repeat (first | with_reducible exact hqc | with_reducible exact Quiet0.refl _ | with_reducible refine Quiet0.trans ?_ (Quiet0.alloc _ _) | with_reducible refine Quiet0.trans ?_ (Quiet0.drew _) | fail))); rintro e wx ⟨rfl, hqx⟩; (refine with_q (w0 := wr) ?hq2 hqx ?_); (case hq2 => (repeat (first | with_reducible exact hqc | with_reducible exact Quiet0.refl _ | with_reducible refine Quiet0.trans ?_ (Quiet0.alloc _ _) | with_reducible refine Quiet0.trans ?_ (Quiet0.drew _) | fail))); intro hqc)
            | fail)
        all_goals
          have HQ3 : Hid (Quiet0 W0 _) := HQ.out.trans hqc
          clear hqc hqx hn1 hn2
          cases rb
          · have HE : Hid (RES = false) := by show _ = _; rw [← HD.out]; rfl
            go_wp2_with fail
            go_ret
            exact ⟨by rw [HE.out]; rfl, HQ0.out.trans HQ3.out⟩
          · have HE : Hid (refAR h.k h.nm h'.k h'.nm (i + 1) x y (ps.drop (i + 1)) (ps'.drop (i + 1)) = RES) := by show _ = _; rw [← HD.out]; rfl
            go_wp2_with fail
            go_roundw
            case rel => exact ⟨i + 1, rfl, by go_num, by omega, HE.out, HQ3.out⟩
            case measure => simp [intOf]; omega
      · have hlt' : ¬ (i : Int) < l2 := by omega
        have HE : Hid (RES = true) := by
          have := HPE.out
          rw [To.drop_end ps i (by have := HL.out; omega), To.drop_end ps' i (by have := HL'.out; omega)] at this
          show _ = _
          rw [← this]; rfl
        go_wp2_with fail
        go_ret
        exact ⟨by rw [HE.out]; rfl, HQ0.out.trans HQ.out⟩
end Sc
end Go.Proofs.YtnfodiedalhlhaaDoor
end
section
/-
  The law ScopeAlike: it returns true. Conditions: the terms lie in memory as told; the table of blanks holds what its initialiser lays.
-/
namespace Go.Proofs.YtnfodiedalhlhaaDoor
open Go.RowKit Go.Shelf
namespace Sc

/-- made bare, two right terms are the same just where the document's are alike -/
theorem alkB_ref (h : Nd) (ps : To) (h' : Nd) (ps' : To) : alkB h ps h' ps' = (RT h ps && RT h' ps' && refA1 [] [] h ps h' ps') := by
  unfold alkB
  cases hr : RT h ps
  · rfl
  cases hr' : RT h' ps'
  · rfl
  have hk := bare_alike (.cons h ps .nil) (.cons h' ps' .nil) 0 ByteArray.empty 0 ByteArray.empty 0 [] [] (right_okF _ hr) (right_okF _ hr')
  have he : envOf 0 ByteArray.empty 0 [] = [] := rfl
  rw [bare_cons, bare_cons, refAR_cons, he] at hk
  have e1 : stripH (if h.k = 1 then brO h [] else h) = bareN h ps := by unfold bareN barH wk1; split <;> rfl
  have e2 : (if h.k = 1 then stripF ps else bareR h.k h.nm 0 [] ps) = bareT h ps := by unfold bareT barP wk1; split <;> rfl
  have e3 : stripH (if h'.k = 1 then brO h' [] else h') = bareN h' ps' := by unfold bareN barH wk1; split <;> rfl
  have e4 : (if h'.k = 1 then stripF ps' else bareR h'.k h'.nm 0 [] ps') = bareT h' ps' := by unfold bareT barP wk1; split <;> rfl
  rw [e1, e2, e3, e4, alike_cons] at hk
  have e5 : ∀ b : Bool, (b && (bareR 0 ByteArray.empty (0 + 1) [] To.nil).alike (headB true) (bareR 0 ByteArray.empty (0 + 1) [] To.nil)) = b := fun b => Bool.and_true b
  have e6 : ∀ b : Bool, (b && refAR 0 ByteArray.empty 0 ByteArray.empty (0 + 1) [] [] To.nil To.nil) = b := fun b => Bool.and_true b
  rw [e5, e6] at hk
  rw [hk]
theorem alkB_self (h : Nd) (ps : To) : alkB h ps h ps = RT h ps := by
  unfold alkB
  rw [alikeT_refl]
  cases RT h ps <;> rfl
set_option maxRecDepth 100000 in
set_option maxHeartbeats 4000000 in
theorem sa_great (h : Nd) (ps : To) (h' : Nd) (ps' : To) (w : World) (o1 : Option Addr) (l1 c1 : Nat) (o2 : Option Addr) (l2 c2 : Nat) (p1 : Option Addr) (m1 d1 : Nat) (p2 : Option Addr) (m2 d2 : Nat) (h1 : SlcIn (Low w) w o1 l1 h.tp) (h2 : TSlc (Low w) w o2 l2 ps) (ho : OkO h) (hop : allT OkO ps) (h1' : SlcIn (Low w) w p1 m1 h'.tp) (h2' : TSlc (Low w) w p2 m2 ps') (ho' : OkO h') (hop' : allT OkO ps') (ht : Lx.Spaces w) (hg : greatTm h ps = true) :
    Calls Tryd.prog 5 #[tmv h o1 l1 c1 o2 l2 c2, tmv h' p1 m1 d1 p2 m2 d2] w fun e w' => e = .returned (.bool true) ∧ Quiet0 w w' := by
  obtain ⟨W0, hW0⟩ : ∃ W0, W0 = (w.alloc (.cells (cells9 h o1 l1 c1 o2 l2 c2) 30)).alloc (.cells (cells9 h' p1 m1 d1 p2 m2 d2) 30) := ⟨_, rfl⟩
  have hq0 : Quiet0 w W0 := by rw [hW0]; exact (Quiet0.alloc _ _).trans (Quiet0.alloc _ _)
  have HQ0 := Lib.hid hq0
  have HB : Hid (∀ W, Quiet0 W0 W → (W.cell? ⟨w.heap.size, 0, none⟩ = some (.int .i64 h.k) ∧ W.cell? ⟨w.heap.size, 1, none⟩ = some (.string h.nm) ∧ W.cell? ⟨w.heap.size, 2, none⟩ = some (.int .i64 h.n) ∧ W.cell? ⟨w.heap.size, 3, none⟩ = some (.int .i64 h.tk) ∧ W.cell? ⟨w.heap.size, 4, none⟩ = some (.int .i64 h.tn) ∧ W.cell? ⟨w.heap.size, 5, none⟩ = some (.slice o1 l1 c1) ∧ W.cell? ⟨w.heap.size, 6, none⟩ = some (.slice o2 l2 c2) ∧ W.cell? ⟨w.heap.size, 7, none⟩ = some (.int .i64 h.fr) ∧ W.cell? ⟨w.heap.size, 8, none⟩ = some (.int .i64 h.en)) ∧ (W.cell? ⟨w.heap.size + 1, 0, none⟩ = some (.int .i64 h'.k) ∧ W.cell? ⟨w.heap.size + 1, 1, none⟩ = some (.string h'.nm) ∧ W.cell? ⟨w.heap.size + 1, 2, none⟩ = some (.int .i64 h'.n) ∧ W.cell? ⟨w.heap.size + 1, 3, none⟩ = some (.int .i64 h'.tk) ∧ W.cell? ⟨w.heap.size + 1, 4, none⟩ = some (.int .i64 h'.tn) ∧ W.cell? ⟨w.heap.size + 1, 5, none⟩ = some (.slice p1 m1 d1) ∧ W.cell? ⟨w.heap.size + 1, 6, none⟩ = some (.slice p2 m2 d2) ∧ W.cell? ⟨w.heap.size + 1, 7, none⟩ = some (.int .i64 h'.fr) ∧ W.cell? ⟨w.heap.size + 1, 8, none⟩ = some (.int .i64 h'.en))) := by
    intro W hq; rw [hW0] at hq; exact box92 w h o1 l1 c1 o2 l2 c2 h' p1 m1 d1 p2 m2 d2 _ W hq
  have HG : Hid (∀ W, Quiet0 W0 W → Calls Tryd.prog 15 #[tmv h o1 l1 c1 o2 l2 c2] W fun e w' => e = .returned (.bool (greatTm h ps)) ∧ Quiet0 W w') := fun W hq => great8_any h ps w W o1 l1 c1 o2 l2 c2 h1 h2 ho hop (hq0.trans hq)
  have HG' : Hid (∀ W, Quiet0 W0 W → Calls Tryd.prog 15 #[tmv h' p1 m1 d1 p2 m2 d2] W fun e w' => e = .returned (.bool (greatTm h' ps')) ∧ Quiet0 W w') := fun W hq => great8_any h' ps' w W p1 m1 d1 p2 m2 d2 h1' h2' ho' hop' (hq0.trans hq)
  have HA : Hid (∀ W, Quiet0 W0 W → Calls Tryd.prog 11 #[] W fun e w' => e = .returned (.bool true) ∧ Quiet0 W w') := fun W hq => awake8_any W (ht.stay (hq0.trans hq))
  rw [hg] at HG
  clear h1 h2 ho hop h1' h2' ho' hop' ht hg hq0
  unfold tmv at HG ⊢
  go_enter Tryd.func5, Tryd.ntmps5
  go_upto_region 1 with fail
  rw [← hW0]
  clear hW0
  generalize hB : w.heap.size = B at *
  clear hB
  obtain ⟨⟨a0, a1, a2, a3, a4, a5, a6, a7, a8⟩, b0, b1, b2, b3, b4, b5, b6, b7, b8⟩ := HB.out W0 (Quiet0.refl _)
  go_wp2_with fail
  refine (HG.out _ (Quiet0.refl _)).mono ?_; rintro x w1 ⟨rfl, hq1⟩
  clear a0 a1 a2 a3 a4 a5 a6 a7 a8 b0 b1 b2 b3 b4 b5 b6 b7 b8
  have HQ1 := Lib.hid hq1
  clear hq1
  go_wp2_with fail
  refine (HA.out _ HQ1.out).mono ?_; rintro x w2 ⟨rfl, hq2⟩
  have HQ2 := Lib.hid hq2
  clear hq2
  go_wp2_with fail
  go_ret
  exact ⟨rfl, HQ0.out.trans (HQ1.out.trans HQ2.out)⟩
set_option maxRecDepth 100000 in
set_option maxHeartbeats 4000000 in
theorem sa_great2 (h : Nd) (ps : To) (h' : Nd) (ps' : To) (w : World) (o1 : Option Addr) (l1 c1 : Nat) (o2 : Option Addr) (l2 c2 : Nat) (p1 : Option Addr) (m1 d1 : Nat) (p2 : Option Addr) (m2 d2 : Nat) (h1 : SlcIn (Low w) w o1 l1 h.tp) (h2 : TSlc (Low w) w o2 l2 ps) (ho : OkO h) (hop : allT OkO ps) (h1' : SlcIn (Low w) w p1 m1 h'.tp) (h2' : TSlc (Low w) w p2 m2 ps') (ho' : OkO h') (hop' : allT OkO ps') (ht : Lx.Spaces w) (hg : greatTm h ps = false) (hg' : greatTm h' ps' = true) :
    Calls Tryd.prog 5 #[tmv h o1 l1 c1 o2 l2 c2, tmv h' p1 m1 d1 p2 m2 d2] w fun e w' => e = .returned (.bool true) ∧ Quiet0 w w' := by
  obtain ⟨W0, hW0⟩ : ∃ W0, W0 = (w.alloc (.cells (cells9 h o1 l1 c1 o2 l2 c2) 30)).alloc (.cells (cells9 h' p1 m1 d1 p2 m2 d2) 30) := ⟨_, rfl⟩
  have hq0 : Quiet0 w W0 := by rw [hW0]; exact (Quiet0.alloc _ _).trans (Quiet0.alloc _ _)
  have HQ0 := Lib.hid hq0
  have HB : Hid (∀ W, Quiet0 W0 W → (W.cell? ⟨w.heap.size, 0, none⟩ = some (.int .i64 h.k) ∧ W.cell? ⟨w.heap.size, 1, none⟩ = some (.string h.nm) ∧ W.cell? ⟨w.heap.size, 2, none⟩ = some (.int .i64 h.n) ∧ W.cell? ⟨w.heap.size, 3, none⟩ = some (.int .i64 h.tk) ∧ W.cell? ⟨w.heap.size, 4, none⟩ = some (.int .i64 h.tn) ∧ W.cell? ⟨w.heap.size, 5, none⟩ = some (.slice o1 l1 c1) ∧ W.cell? ⟨w.heap.size, 6, none⟩ = some (.slice o2 l2 c2) ∧ W.cell? ⟨w.heap.size, 7, none⟩ = some (.int .i64 h.fr) ∧ W.cell? ⟨w.heap.size, 8, none⟩ = some (.int .i64 h.en)) ∧ (W.cell? ⟨w.heap.size + 1, 0, none⟩ = some (.int .i64 h'.k) ∧ W.cell? ⟨w.heap.size + 1, 1, none⟩ = some (.string h'.nm) ∧ W.cell? ⟨w.heap.size + 1, 2, none⟩ = some (.int .i64 h'.n) ∧ W.cell? ⟨w.heap.size + 1, 3, none⟩ = some (.int .i64 h'.tk) ∧ W.cell? ⟨w.heap.size + 1, 4, none⟩ = some (.int .i64 h'.tn) ∧ W.cell? ⟨w.heap.size + 1, 5, none⟩ = some (.slice p1 m1 d1) ∧ W.cell? ⟨w.heap.size + 1, 6, none⟩ = some (.slice p2 m2 d2) ∧ W.cell? ⟨w.heap.size + 1, 7, none⟩ = some (.int .i64 h'.fr) ∧ W.cell? ⟨w.heap.size + 1, 8, none⟩ = some (.int .i64 h'.en))) := by
    intro W hq; rw [hW0] at hq; exact box92 w h o1 l1 c1 o2 l2 c2 h' p1 m1 d1 p2 m2 d2 _ W hq
  have HG : Hid (∀ W, Quiet0 W0 W → Calls Tryd.prog 15 #[tmv h o1 l1 c1 o2 l2 c2] W fun e w' => e = .returned (.bool (greatTm h ps)) ∧ Quiet0 W w') := fun W hq => great8_any h ps w W o1 l1 c1 o2 l2 c2 h1 h2 ho hop (hq0.trans hq)
  have HG' : Hid (∀ W, Quiet0 W0 W → Calls Tryd.prog 15 #[tmv h' p1 m1 d1 p2 m2 d2] W fun e w' => e = .returned (.bool (greatTm h' ps')) ∧ Quiet0 W w') := fun W hq => great8_any h' ps' w W p1 m1 d1 p2 m2 d2 h1' h2' ho' hop' (hq0.trans hq)
  have HA : Hid (∀ W, Quiet0 W0 W → Calls Tryd.prog 11 #[] W fun e w' => e = .returned (.bool true) ∧ Quiet0 W w') := fun W hq => awake8_any W (ht.stay (hq0.trans hq))
  rw [hg] at HG
  rw [hg'] at HG'
  clear h1 h2 ho hop h1' h2' ho' hop' ht hg hg' hq0
  unfold tmv at HG HG' ⊢
  go_enter Tryd.func5, Tryd.ntmps5
  go_upto_region 1 with fail
  rw [← hW0]
  clear hW0
  generalize hB : w.heap.size = B at *
  clear hB
  obtain ⟨⟨a0, a1, a2, a3, a4, a5, a6, a7, a8⟩, b0, b1, b2, b3, b4, b5, b6, b7, b8⟩ := HB.out W0 (Quiet0.refl _)
  go_wp2_with fail
  refine (HG.out _ (Quiet0.refl _)).mono ?_; rintro x w1 ⟨rfl, hq1⟩
  clear a0 a1 a2 a3 a4 a5 a6 a7 a8 b0 b1 b2 b3 b4 b5 b6 b7 b8
  obtain ⟨⟨a0, a1, a2, a3, a4, a5, a6, a7, a8⟩, b0, b1, b2, b3, b4, b5, b6, b7, b8⟩ := HB.out w1 hq1
  have HQ1 := Lib.hid hq1
  clear hq1
  go_wp2_with fail
  refine (HG'.out _ HQ1.out).mono ?_; rintro x w2 ⟨rfl, hq2⟩
  clear a0 a1 a2 a3 a4 a5 a6 a7 a8 b0 b1 b2 b3 b4 b5 b6 b7 b8
  have HQ2 := Lib.hid (HQ1.out.trans hq2)
  clear hq2
  go_wp2_with fail
  refine (HA.out _ HQ2.out).mono ?_; rintro x w3 ⟨rfl, hq3⟩
  have HQ3 := Lib.hid hq3
  clear hq3
  go_wp2_with fail
  go_ret
  exact ⟨rfl, HQ0.out.trans (HQ2.out.trans HQ3.out)⟩
set_option maxRecDepth 100000 in
set_option maxHeartbeats 8000000 in
theorem sa_main (h : Nd) (ps : To) (h' : Nd) (ps' : To) (w : World) (o1 : Option Addr) (l1 c1 : Nat) (o2 : Option Addr) (l2 c2 : Nat) (p1 : Option Addr) (m1 d1 : Nat) (p2 : Option Addr) (m2 d2 : Nat) (h1 : SlcIn (Low w) w o1 l1 h.tp) (h2 : TSlc (Low w) w o2 l2 ps) (ho : OkO h) (hop : allT OkO ps) (h1' : SlcIn (Low w) w p1 m1 h'.tp) (h2' : TSlc (Low w) w p2 m2 ps') (ho' : OkO h') (hop' : allT OkO ps') (ht : Lx.Spaces w) (hg : greatTm h ps = false) (hg' : greatTm h' ps' = false) :
    Calls Tryd.prog 5 #[tmv h o1 l1 c1 o2 l2 c2, tmv h' p1 m1 d1 p2 m2 d2] w fun e w' => e = .returned (.bool true) ∧ Quiet0 w w' := by
  have hsm := small_of hg ho hop
  have hsm' := small_of hg' ho' hop'
  obtain ⟨W0, hW0⟩ : ∃ W0, W0 = (w.alloc (.cells (cells9 h o1 l1 c1 o2 l2 c2) 30)).alloc (.cells (cells9 h' p1 m1 d1 p2 m2 d2) 30) := ⟨_, rfl⟩
  have hq0 : Quiet0 w W0 := by rw [hW0]; exact (Quiet0.alloc _ _).trans (Quiet0.alloc _ _)
  have HQ0 := Lib.hid hq0
  have HB : Hid (∀ W, Quiet0 W0 W → (W.cell? ⟨w.heap.size, 0, none⟩ = some (.int .i64 h.k) ∧ W.cell? ⟨w.heap.size, 1, none⟩ = some (.string h.nm) ∧ W.cell? ⟨w.heap.size, 2, none⟩ = some (.int .i64 h.n) ∧ W.cell? ⟨w.heap.size, 3, none⟩ = some (.int .i64 h.tk) ∧ W.cell? ⟨w.heap.size, 4, none⟩ = some (.int .i64 h.tn) ∧ W.cell? ⟨w.heap.size, 5, none⟩ = some (.slice o1 l1 c1) ∧ W.cell? ⟨w.heap.size, 6, none⟩ = some (.slice o2 l2 c2) ∧ W.cell? ⟨w.heap.size, 7, none⟩ = some (.int .i64 h.fr) ∧ W.cell? ⟨w.heap.size, 8, none⟩ = some (.int .i64 h.en)) ∧ (W.cell? ⟨w.heap.size + 1, 0, none⟩ = some (.int .i64 h'.k) ∧ W.cell? ⟨w.heap.size + 1, 1, none⟩ = some (.string h'.nm) ∧ W.cell? ⟨w.heap.size + 1, 2, none⟩ = some (.int .i64 h'.n) ∧ W.cell? ⟨w.heap.size + 1, 3, none⟩ = some (.int .i64 h'.tk) ∧ W.cell? ⟨w.heap.size + 1, 4, none⟩ = some (.int .i64 h'.tn) ∧ W.cell? ⟨w.heap.size + 1, 5, none⟩ = some (.slice p1 m1 d1) ∧ W.cell? ⟨w.heap.size + 1, 6, none⟩ = some (.slice p2 m2 d2) ∧ W.cell? ⟨w.heap.size + 1, 7, none⟩ = some (.int .i64 h'.fr) ∧ W.cell? ⟨w.heap.size + 1, 8, none⟩ = some (.int .i64 h'.en))) := by
    intro W hq; rw [hW0] at hq; exact box92 w h o1 l1 c1 o2 l2 c2 h' p1 m1 d1 p2 m2 d2 _ W hq
  have HG : Hid (∀ W, Quiet0 W0 W → Calls Tryd.prog 15 #[tmv h o1 l1 c1 o2 l2 c2] W fun e w' => e = .returned (.bool (greatTm h ps)) ∧ Quiet0 W w') := fun W hq => great8_any h ps w W o1 l1 c1 o2 l2 c2 h1 h2 ho hop (hq0.trans hq)
  have HG' : Hid (∀ W, Quiet0 W0 W → Calls Tryd.prog 15 #[tmv h' p1 m1 d1 p2 m2 d2] W fun e w' => e = .returned (.bool (greatTm h' ps')) ∧ Quiet0 W w') := fun W hq => great8_any h' ps' w W p1 m1 d1 p2 m2 d2 h1' h2' ho' hop' (hq0.trans hq)
  have HA : Hid (∀ W, Quiet0 W0 W → Calls Tryd.prog 11 #[] W fun e w' => e = .returned (.bool true) ∧ Quiet0 W w') := fun W hq => awake8_any W (ht.stay (hq0.trans hq))
  rw [hg] at HG
  rw [hg'] at HG'
  have HR : Hid (∀ W, Quiet0 W0 W → Calls Tryd.prog 16 #[tmv h o1 l1 c1 o2 l2 c2] W fun e w' => e = .returned (.bool (RT h ps)) ∧ Quiet0 W w') := fun W hq => refRightT_any h ps W _ o1 l1 c1 o2 l2 c2 (h1.stay (hq0.trans hq)) (h2.stay (hq0.trans hq)) hsm.right.1 hsm.right.2
  have HR' : Hid (∀ W, Quiet0 W0 W → Calls Tryd.prog 16 #[tmv h' p1 m1 d1 p2 m2 d2] W fun e w' => e = .returned (.bool (RT h' ps')) ∧ Quiet0 W w') := fun W hq => refRightT_any h' ps' W _ p1 m1 d1 p2 m2 d2 (h1'.stay (hq0.trans hq)) (h2'.stay (hq0.trans hq)) hsm'.right.1 hsm'.right.2
  have HL : Hid (∀ W, Quiet0 W0 W → Calls Tryd.prog 24 #[tmv h o1 l1 c1 o2 l2 c2, tmv h' p1 m1 d1 p2 m2 d2, .slice none 0 0, .slice none 0 0] W fun e w' => e = .returned (.bool (refA1 [] [] h ps h' ps')) ∧ Quiet0 W w') := fun W hq => ref8Alike_any h ps h' ps' W _ (fun _ => False) (fun _ => False) o1 l1 c1 o2 l2 c2 p1 m1 d1 p2 m2 d2 none 0 0 [] none 0 0 [] (h1.stay (hq0.trans hq)) (h2.stay (hq0.trans hq)) (h1'.stay (hq0.trans hq)) (h2'.stay (hq0.trans hq)) (NmIn.nil _ _ _) (NmIn.nil _ _ _) (by have := hsm.size; omega) (by have := hsm.size; omega)
  have HX : Hid (∀ W, Quiet0 W0 W → Calls Tryd.prog 25 #[tmv h o1 l1 c1 o2 l2 c2, tmv h' p1 m1 d1 p2 m2 d2] W fun e w' => e = .returned (.bool (RT h ps && RT h' ps' && refA1 [] [] h ps h' ps')) ∧ Quiet0 W w') := fun W hq => by
    have := alike8_any h ps h' ps' W _ _ o1 l1 c1 o2 l2 c2 p1 m1 d1 p2 m2 d2 (h1.stay (hq0.trans hq)) (h2.stay (hq0.trans hq)) (by have := hsm.size; omega) hsm.good (h1'.stay (hq0.trans hq)) (h2'.stay (hq0.trans hq)) (by have := hsm'.size; omega) hsm'.good (ht.stay (hq0.trans hq))
    rw [alkB_ref] at this; exact this
  have HY : Hid (∀ W, Quiet0 W0 W → Calls Tryd.prog 25 #[tmv h o1 l1 c1 o2 l2 c2, tmv h o1 l1 c1 o2 l2 c2] W fun e w' => e = .returned (.bool (RT h ps)) ∧ Quiet0 W w') := fun W hq => by
    have := alike8_any h ps h ps W _ _ o1 l1 c1 o2 l2 c2 o1 l1 c1 o2 l2 c2 (h1.stay (hq0.trans hq)) (h2.stay (hq0.trans hq)) (by have := hsm.size; omega) hsm.good (h1.stay (hq0.trans hq)) (h2.stay (hq0.trans hq)) (by have := hsm.size; omega) hsm.good (ht.stay (hq0.trans hq))
    rw [alkB_self] at this; exact this
  clear h1 h2 ho hop h1' h2' ho' hop' ht hg hg' hq0 hsm hsm'
  unfold tmv at HG HG' HR HR' HL HX HY ⊢
  generalize RT h ps = r1 at *
  generalize RT h' ps' = r2 at *
  generalize refA1 [] [] h ps h' ps' = r3 at *
  obtain ⟨rr, hrr⟩ : ∃ rr, rr = (r1 && r2 && r3) := ⟨_, rfl⟩
  rw [← hrr] at HX
  have HRR := Lib.hid hrr
  clear hrr
  go_enter Tryd.func5, Tryd.ntmps5
  go_upto_region 1 with fail
  rw [← hW0]
  clear hW0
  generalize hB : w.heap.size = B at *
  clear hB
  obtain ⟨⟨a0, a1, a2, a3, a4, a5, a6, a7, a8⟩, b0, b1, b2, b3, b4, b5, b6, b7, b8⟩ := HB.out W0 (Quiet0.refl _)
  go_wp2_with fail
  refine (HG.out _ (Quiet0.refl _)).mono ?_; rintro x w1 ⟨rfl, hq1⟩
  clear a0 a1 a2 a3 a4 a5 a6 a7 a8 b0 b1 b2 b3 b4 b5 b6 b7 b8
  obtain ⟨⟨a0, a1, a2, a3, a4, a5, a6, a7, a8⟩, b0, b1, b2, b3, b4, b5, b6, b7, b8⟩ := HB.out w1 hq1
  have HQ1 := Lib.hid hq1
  clear hq1
  go_wp2_with fail
  refine (HG'.out _ HQ1.out).mono ?_; rintro x w2 ⟨rfl, hq2⟩
  clear a0 a1 a2 a3 a4 a5 a6 a7 a8 b0 b1 b2 b3 b4 b5 b6 b7 b8
  have HQ2 := Lib.hid (HQ1.out.trans hq2)
  clear hq2
  obtain ⟨⟨a0, a1, a2, a3, a4, a5, a6, a7, a8⟩, b0, b1, b2, b3, b4, b5, b6, b7, b8⟩ := HB.out w2 HQ2.out
  go_upto_region 3 with fail
  go_cut [5] (fun v wx => v = .bool rr ∧ Quiet0 W0 wx)
  case first =>
    go_wp2_with fail
    refine (HR.out _ HQ2.out).mono ?_; rintro x w3 ⟨rfl, hq3⟩
    clear a0 a1 a2 a3 a4 a5 a6 a7 a8 b0 b1 b2 b3 b4 b5 b6 b7 b8
    have HQ3 := Lib.hid (HQ2.out.trans hq3)
    clear hq3
    obtain ⟨⟨a0, a1, a2, a3, a4, a5, a6, a7, a8⟩, b0, b1, b2, b3, b4, b5, b6, b7, b8⟩ := HB.out w3 HQ3.out
    cases r1
    · have HE : Hid (rr = false) := HRR.out
      go_wp2_with fail
      go_meet
      exact ⟨by rw [HE.out], HQ3.out⟩
    · go_wp2_with fail
      refine (HR'.out _ HQ3.out).mono ?_; rintro x w4 ⟨rfl, hq4⟩
      clear a0 a1 a2 a3 a4 a5 a6 a7 a8 b0 b1 b2 b3 b4 b5 b6 b7 b8
      have HQ4 := Lib.hid (HQ3.out.trans hq4)
      clear hq4
      obtain ⟨⟨a0, a1, a2, a3, a4, a5, a6, a7, a8⟩, b0, b1, b2, b3, b4, b5, b6, b7, b8⟩ := HB.out w4 HQ4.out
      cases r2
      · have HE : Hid (rr = false) := HRR.out
        go_wp2_with fail
        go_meet
        exact ⟨by rw [HE.out], HQ4.out⟩
      · have HE : Hid (rr = r3) := HRR.out.trans (by simp)
        go_wp2_with fail
        refine (HL.out _ HQ4.out).mono ?_; rintro x w5 ⟨rfl, hq5⟩
        clear a0 a1 a2 a3 a4 a5 a6 a7 a8 b0 b1 b2 b3 b4 b5 b6 b7 b8
        have HQ5 := Lib.hid (HQ4.out.trans hq5)
        clear hq5
        go_wp2_with fail
        go_meet
        exact ⟨by rw [HE.out], HQ5.out⟩
  case rest =>
    rename World => w3
    obtain ⟨rfl, hqx⟩ := hcut
    have HQ3 := Lib.hid hqx
    clear hqx
    clear a0 a1 a2 a3 a4 a5 a6 a7 a8 b0 b1 b2 b3 b4 b5 b6 b7 b8
    have HB3 : Hid (∀ W, Quiet0 w3 W → (W.cell? ⟨B, 0, none⟩ = some (.int .i64 h.k) ∧ W.cell? ⟨B, 1, none⟩ = some (.string h.nm) ∧ W.cell? ⟨B, 2, none⟩ = some (.int .i64 h.n) ∧ W.cell? ⟨B, 3, none⟩ = some (.int .i64 h.tk) ∧ W.cell? ⟨B, 4, none⟩ = some (.int .i64 h.tn) ∧ W.cell? ⟨B, 5, none⟩ = some (.slice o1 l1 c1) ∧ W.cell? ⟨B, 6, none⟩ = some (.slice o2 l2 c2) ∧ W.cell? ⟨B, 7, none⟩ = some (.int .i64 h.fr) ∧ W.cell? ⟨B, 8, none⟩ = some (.int .i64 h.en)) ∧ (W.cell? ⟨B + 1, 0, none⟩ = some (.int .i64 h'.k) ∧ W.cell? ⟨B + 1, 1, none⟩ = some (.string h'.nm) ∧ W.cell? ⟨B + 1, 2, none⟩ = some (.int .i64 h'.n) ∧ W.cell? ⟨B + 1, 3, none⟩ = some (.int .i64 h'.tk) ∧ W.cell? ⟨B + 1, 4, none⟩ = some (.int .i64 h'.tn) ∧ W.cell? ⟨B + 1, 5, none⟩ = some (.slice p1 m1 d1) ∧ W.cell? ⟨B + 1, 6, none⟩ = some (.slice p2 m2 d2) ∧ W.cell? ⟨B + 1, 7, none⟩ = some (.int .i64 h'.fr) ∧ W.cell? ⟨B + 1, 8, none⟩ = some (.int .i64 h'.en))) := fun W hq => HB.out W (HQ3.out.trans hq)
    have HX3 := Lib.hid (fun (W : World) (hq : Quiet0 w3 W) => HX.out W (HQ3.out.trans hq))
    have HY3 := Lib.hid (fun (W : World) (hq : Quiet0 w3 W) => HY.out W (HQ3.out.trans hq))
    have HR3 := Lib.hid (fun (W : World) (hq : Quiet0 w3 W) => HR.out W (HQ3.out.trans hq))
    have HA3 := Lib.hid (fun (W : World) (hq : Quiet0 w3 W) => HA.out W (HQ3.out.trans hq))
    clear HRR
    have hqc := Quiet0.refl w3
    obtain ⟨⟨a0, a1, a2, a3, a4, a5, a6, a7, a8⟩, b0, b1, b2, b3, b4, b5, b6, b7, b8⟩ := HB3.out _ hqc
    go_upto_region 4 with fail
    go_region_law (first
      | (go_simp; go_at_call 25; (with_reducible refine Calls.mono (HX3.out _ ?hq) ?_); (case hq => (repeat (first | with_reducible exact hqc | with_reducible exact Quiet0.refl _ | with_reducible refine Quiet0.trans ?_ (Quiet0.alloc _ _) | with_reducible refine Quiet0.trans ?_ (Quiet0.drew _) | fail))); rintro e wx ⟨rfl, hqx⟩; (refine with_q (w0 := w3) ?hq2 hqx ?_); (case hq2 => (repeat (first | with_reducible exact hqc | with_reducible exact Quiet0.refl _ | with_reducible refine Quiet0.trans ?_ (Quiet0.alloc _ _) | with_reducible refine Quiet0.trans ?_ (Quiet0.drew _) | fail))); intro hqc; obtain ⟨⟨a0, a1, a2, a3, a4, a5, a6, a7, a8⟩, b0, b1, b2, b3, b4, b5, b6, b7, b8⟩ := HB3.out _ hqc)
      | (go_simp; go_at_call 25; (with_reducible refine Calls.mono (HY3.out _ ?hq) ?_); (case hq => (repeat (first | with_reducible exact hqc | with_reducible exact Quiet0.refl _ | with_reducible refine Quiet0.trans ?_ (Quiet0.alloc _ _) | with_reducible refine Quiet0.trans ?_ (Quiet0.drew _) | fail))); rintro e wx ⟨rfl, hqx⟩; (refine with_q (w0 := w3) ?hq2 hqx ?_); (case hq2 => (repeat (first | with_reducible exact hqc | with_reducible exact Quiet0.refl _ | with_reducible refine Quiet0.trans ?_ (Quiet0.alloc _ _) | with_reducible refine Quiet0.trans ?_ (Quiet0.drew _) | fail))); intro hqc; obtain ⟨⟨a0, a1, a2, a3, a4, a5, a6, a7, a8⟩, b0, b1, b2, b3, b4, b5, b6, b7, b8⟩ := HB3.out _ hqc)
      | (go_simp; go_at_call 16; (with_reducible refine Calls.mono (HR3.out _ ?hq) ?_); (case hq => (repeat (first | with_reducible exact hqc | with_reducible exact Quiet0.refl _ | with_reducible refine Quiet0.trans ?_ (Quiet0.alloc _ _) | with_reducible refine Quiet0.trans ?_ (Quiet0.drew _) | fail))); rintro e wx ⟨rfl, hqx⟩; (refine with_q (w0 := w3) ?hq2 hqx ?_); (case hq2 => (repeat (first | with_reducible exact hqc | with_reducible exact Quiet0.refl _ | with_reducible refine Quiet0.trans ?_ (Quiet0.alloc _ _) | with_reducible refine Quiet0.trans ?_ (Quiet0.drew _) | fail))); intro hqc; obtain ⟨⟨a0, a1, a2, a3, a4, a5, a6, a7, a8⟩, b0, b1, b2, b3, b4, b5, b6, b7, b8⟩ := HB3.out _ hqc)
      | (go_simp; go_at_call 11; (with_reducible refine Calls.mono (HA3.out _ ?hq) ?_); (case hq => (repeat (first | with_reducible exact hqc | with_reducible exact Quiet0.refl _ | with_reducible refine Quiet0.trans ?_ (Quiet0.alloc _ _) | with_reducible refine Quiet0.trans ?_ (Quiet0.drew _) | fail))); rintro e wx ⟨rfl, hqx⟩; (refine with_q (w0 := w3) ?hq2 hqx ?_); (case hq2 => (repeat (first | with_reducible exact hqc | with_reducible exact Quiet0.refl _ | with_reducible refine Quiet0.trans ?_ (Quiet0.alloc _ _) | with_reducible refine Quiet0.trans ?_ (Quiet0.drew _) | fail))); intro hqc; obtain ⟨⟨a0, a1, a2, a3, a4, a5, a6, a7, a8⟩, b0, b1, b2, b3, b4, b5, b6, b7, b8⟩ := HB3.out _ hqc)
      | fail)
    all_goals
      have HQC : Hid (Quiet0 w3 _) := hqc
      clear hqc
      go_wp2_with fail
      go_ret
      exact ⟨rfl, HQ0.out.trans (HQ3.out.trans HQC.out)⟩
theorem scopeAlike_all (h : Nd) (ps : To) (h' : Nd) (ps' : To) (w : World) (o1 : Option Addr) (l1 c1 : Nat) (o2 : Option Addr) (l2 c2 : Nat) (p1 : Option Addr) (m1 d1 : Nat) (p2 : Option Addr) (m2 d2 : Nat) (h1 : SlcIn (Low w) w o1 l1 h.tp) (h2 : TSlc (Low w) w o2 l2 ps) (ho : OkO h) (hop : allT OkO ps) (h1' : SlcIn (Low w) w p1 m1 h'.tp) (h2' : TSlc (Low w) w p2 m2 ps') (ho' : OkO h') (hop' : allT OkO ps') (ht : Lx.Spaces w) :
    Calls Tryd.prog 5 #[tmv h o1 l1 c1 o2 l2 c2, tmv h' p1 m1 d1 p2 m2 d2] w fun e w' => e = .returned (.bool true) ∧ Quiet0 w w' := by
  cases hg : greatTm h ps
  · cases hg' : greatTm h' ps'
    · exact sa_main h ps h' ps' w o1 l1 c1 o2 l2 c2 p1 m1 d1 p2 m2 d2 h1 h2 ho hop h1' h2' ho' hop' ht hg hg'
    · exact sa_great2 h ps h' ps' w o1 l1 c1 o2 l2 c2 p1 m1 d1 p2 m2 d2 h1 h2 ho hop h1' h2' ho' hop' ht hg hg'
  · exact sa_great h ps h' ps' w o1 l1 c1 o2 l2 c2 p1 m1 d1 p2 m2 d2 h1 h2 ho hop h1' h2' ho' hop' ht hg
end Sc
end Go.Proofs.YtnfodiedalhlhaaDoor
end
section
/-
  What the rows' condition on listed variables gives: strings.asciiSpace holds its table; a world that meets it (the door's own). No condition.
-/
namespace Go.Proofs.YtnfodiedalhlhaaDoor
open Go.ChangeShapes Go.WideShapes Go.ChangeAt Go.RowKit

def doorSteps : Nat := 48
def laidL : List (String × DataW Unit) := [("unicode.White_Space", Rows.laid_unicode_White_Space), ("strings.asciiSpace", Rows.laid_strings_asciiSpace)]
set_option maxRecDepth 100000 in
theorem ascii_data : (Rows.laid_strings_asciiSpace : DataW Unit) = Lib.tabData .u8 Lib.asciiSpaceTab := by rfl
set_option maxRecDepth 100000 in
theorem door_met (os : Os) (args : Array Value) : laidMetH Tryd.prog laidL ((World.doorLaid Tryd.prog doorSteps os).forCall (fun _ _ => 0) ⟨#[], args, []⟩).memory :=
  laidMetH_of_parts3 (fuel := 8) (laidMet_of_run' 8 (by kernel_rfl) (by kernel_rfl)) (by kernel_rfl) (by kernel_rfl)
set_option maxRecDepth 100000 in
theorem spaces_of_laid {W : World} (h : laidMetH Tryd.prog laidL W) : Lx.Spaces W := by
  rw [MakeChecks.laidMetH_plain _ _ _ (by kernel_rfl)] at h
  have h2 := laidMet.tail h
  rw [ascii_data] at h2
  exact Lib.tabIs_of_head (g := 0) (n := 256) (by kernel_rfl) (by kernel_rfl) (t := 128) (e := 5) Tryd.underlying128 Tryd.underlying5 (by kernel_rfl) (by kernel_rfl) h2
end Go.Proofs.YtnfodiedalhlhaaDoor
end
