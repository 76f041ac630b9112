/-
  types.text of an arrow. Conditions: as TyText's; the parts by induction.
-/
import Derived.Test.YtggidhgifaekbaaDoorTyText
import Derived.Deep.RegionHeld3
namespace Go.Proofs.YtggidhgifaekbaaDoor
open Go.RowKit

set_option maxHeartbeats 4000000 in
set_option maxRecDepth 100000 in
theorem text_4 (n : Int) (ps : Fo) (ih : ∀ i k' n' qs, ps.get i = some (k', n', qs) → TText k' n' qs) : TText 4 n ps := by
  intro w o len cap hs hp hr hsz ht
  have hl : len = 2 := by
    have := hs.1
    simp [Fo.plain] at hp
    omega
  subst hl
  obtain ⟨b, off, k0, n0, q0, o0, l0, c0, rfl, hd0, hg0, a0, a1, a2, hs0⟩ := hs.nth (i := 0) (by omega)
  obtain ⟨b', off', k1, n1, q1, o1, l1, c1, he, hd1, hg1, b0, b1, b2, hs1⟩ := hs.nth (i := 1) (by omega)
  cases he
  have hz0 := Fo.size_get _ _ _ _ _ hg0
  have hz1 := Fo.size_get _ _ _ _ _ hg1
  obtain ⟨hp0, hr0⟩ := Fo.right_get _ _ _ _ _ hr hg0
  obtain ⟨hp1, hr1⟩ := Fo.right_get _ _ _ _ _ hr hg1
  rw [Nat.zero_mul, Nat.add_zero] at a0 a1 a2
  rw [Nat.one_mul] at b0 b1 b2
  have hbl := World.block_lt_of_cell? w _ a0
  obtain ⟨s0, hs0'⟩ : ∃ s, s = tb (txt k0 n0 q0.texts) := ⟨_, rfl⟩
  obtain ⟨s1, hs1'⟩ : ∃ s, s = tb (txt k1 n1 q1.texts) := ⟨_, rfl⟩
  obtain ⟨sb, hsb'⟩ : ∃ s, s = tb (brackL (k0 == 4) (txt k0 n0 q0.texts)) := ⟨_, rfl⟩
  have hs1z : s1.size ≤ 20000 := by rw [hs1', tb_size]; have := txt_bound k1 n1 q1; omega
  have hsbz : sb.size ≤ 20000 := by rw [hsb', tb_size]; have := txt_bound k0 n0 q0; have := brackL_len (k0 == 4) (txt k0 n0 q0.texts); omega
  have HC0 : Hid (∀ W, Quiet0 w W → Calls Tryd.prog 70 #[.agg #[.int .i64 k0, .int .i64 n0, .slice o0 l0 c0]] W fun e w' => e = .returned (.string s0) ∧ Quiet0 W w') := by
    intro W hq; rw [hs0']; exact ih 0 k0 n0 q0 hg0 W o0 l0 c0 (hs0.stay hq) hp0 hr0 (by omega) (ht.stay hq)
  have HC1 : Hid (∀ W, Quiet0 w W → Calls Tryd.prog 70 #[.agg #[.int .i64 k1, .int .i64 n1, .slice o1 l1 c1]] W fun e w' => e = .returned (.string s1) ∧ Quiet0 W w') := by
    intro W hq; rw [hs1']; exact ih 1 k1 n1 q1 hg1 W o1 l1 c1 (hs1.stay hq) hp1 hr1 (by omega) (ht.stay hq)
  have HBR : Hid (∀ W, Calls Tryd.prog 108 #[.bool (k0 == 4), .string s0] W fun e w' => e = .returned (.string sb) ∧ W = w') := by
    intro W; rw [hs0', hsb']; exact bracket_any (k0 == 4) (txt k0 n0 q0.texts) (by have := txt_bound k0 n0 q0; omega) W
  have HFIN : Hid (sb ++ ⟨#[32, 45, 62, 32]⟩ ++ s1 = tb (txt 4 n ps.texts)) := by
    show _ = _
    have e0 := Fo.texts_get _ _ _ _ _ hg0
    have e1 := Fo.texts_get _ _ _ _ _ hg1
    have e : txt 4 n ps.texts = brackL (k0 == 4) (txt k0 n0 q0.texts) ++ [32, 45, 62, 32] ++ txt k1 n1 q1.texts := by
      match hts : ps.texts, e0, e1 with
      | a :: b :: r, e0, e1 =>
        simp at e0 e1
        subst e0 e1
        rfl
    rw [e, hsb', hs1', ← tb_app, ← tb_app]; rfl
  rw [← HFIN.out]
  have u1 : (9223372036854775807 < sb.size + 4) = False := by simp; omega
  have u2 : (9223372036854775807 < sb.size + 4 + s1.size) = False := by simp; omega
  have u3 : (9223372036854775807 < sb.size + (⟨#[32, 45, 62, 32]⟩ : ByteArray).size) = False := by have : (⟨#[32, 45, 62, 32]⟩ : ByteArray).size = 4 := rfl; simp; omega
  have u4 : (sb ++ ⟨#[32, 45, 62, 32]⟩ : ByteArray).size = sb.size + 4 := by rw [ByteArray.size_append]; rfl
  clear hs hp hr hsz ht hg0 hg1 hd0 hd1 hs0 hs1 hz0 hz1 hp0 hp1 hr0 hr1 hs0' hs1' hsb' ih HFIN
  unfold tyv
  go_enter Tryd.func70, Tryd.ntmps70
  go_wp2_with fail
  obtain ⟨W0, hW0⟩ : ∃ W0, W0 = w.alloc (.cells #[.int .i64 4, .int .i64 n, .slice (some ⟨b, off, none⟩) 2 cap] 24) := ⟨_, rfl⟩
  change Code.wp _ _ _ _ (w.alloc (.cells #[.int .i64 4, .int .i64 n, .slice (some ⟨b, off, none⟩) 2 cap] 24))
  have HQ0 : Hid (Quiet0 w W0) := by rw [hW0]; exact Quiet0.alloc _ _
  have g2 : W0.cell? ⟨w.heap.size, 2, none⟩ = some (.slice (some ⟨b, off, none⟩) 2 cap) := by
    rw [hW0]; exact (box_cells w 4 n (some ⟨b, off, none⟩) 2 cap _ _ (Quiet0.refl _)).2.2
  rw [← hW0]
  replace a0 := HQ0.out.at a0
  replace a1 := HQ0.out.at a1
  replace a2 := HQ0.out.at a2
  replace b0 := HQ0.out.at b0
  replace b1 := HQ0.out.at b1
  replace b2 := HQ0.out.at b2
  clear hW0
  generalize hB : w.heap.size = B at *
  clear hB
  go_region_held3 (fun w' => w'.cell? ⟨B, 2, none⟩ = some (.slice (some ⟨b, off, none⟩) 2 cap) ∧ w'.cell? ⟨b, off, none⟩ = some (.int .i64 k0) ∧ w'.cell? ⟨b, off + 1, none⟩ = some (.int .i64 n0) ∧ w'.cell? ⟨b, off + 2, none⟩ = some (.slice o0 l0 c0) ∧ w'.cell? ⟨b, off + 3, none⟩ = some (.int .i64 k1) ∧ w'.cell? ⟨b, off + 3 + 1, none⟩ = some (.int .i64 n1) ∧ w'.cell? ⟨b, off + 3 + 2, none⟩ = some (.slice o1 l1 c1))
    (first
      | (go_keep; done)
      | (exact ⟨hq5.at g2, hq5.at a0, hq5.at a1, hq5.at a2, hq5.at b0, hq5.at b1, hq5.at b2⟩)
      | (exact ⟨hq3.at g2, hq3.at a0, hq3.at a1, hq3.at a2, hq3.at b0, hq3.at b1, hq3.at b2⟩)
      | (exact ⟨g2, a0, a1, a2, b0, b1, b2⟩))
    (first
      | (go_at_call 70; with_reducible refine (HC0.out _ (HQ0.out.trans (Quiet0.drew _))).mono ?_; rintro e w3 ⟨rfl, hq3⟩; replace hq3 := (Quiet0.drew W0).trans hq3)
      | (go_at_call 108; with_reducible refine (HBR.out _).mono ?_; rintro e w4 ⟨rfl, rfl⟩)
      | (go_at_call 70; with_reducible refine (HC1.out _ (HQ0.out.trans hq3)).mono ?_; rintro e w5 ⟨rfl, hq5⟩; replace hq5 := hq3.trans hq5))
  all_goals
    go_wp2_with fail
    go_ret
    exact ⟨rfl, HQ0.out.trans hq5⟩
end Go.Proofs.YtggidhgifaekbaaDoor
