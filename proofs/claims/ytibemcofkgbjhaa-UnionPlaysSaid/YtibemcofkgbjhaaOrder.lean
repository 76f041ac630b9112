/-
  UnionOrder, the walk where it goes on (few pairs, few orders): it returns true and turns nothing that was there. Conditions: the pairs' and the bytes' cells are as told, at most 40 pairs, at most 60 bytes.
-/
import Derived.Test.YtibemcofkgbjhaaFs
import Derived.Test.YtibemcofkgbjhaaPairs
import Derived.StillTailTactics
import Derived.BigQuiet
import Derived.Deep.RegionWith
import Derived.Test.YtibemcofkgbjhaaOpen
namespace Go.Proofs.Ytibemcofkgbjhaa
open Go.RowKit

theorem join_fsi (fb ub rb n : Nat) (R : Nat → Nat) (sets steps a b : Nat) (ai bi : Int) (w : World) (ea : ai = a) (eb : bi = b) (h : FS w fb ub rb n R sets steps) (ha : a < n) (hb : b < n) (hs : steps + 4 * Nat.log2 n + 4 ≤ 4611686018427387904) :
    Calls Try.prog 10 #[.pointer (some ⟨fb, 0, none⟩), .int .i64 ai, .int .i64 bi] w (FSJoin fb ub rb n R steps a b w) := by
  subst ea; subst eb; exact join_fs fb ub rb n R sets steps a b w h ha hb hs

set_option maxRecDepth 100000 in
set_option maxHeartbeats 2000000 in
theorem unionOrder_walk (N : Nat) (o o2 : Option Addr) (len cap len2 cap2 : Nat) (A B C : Nat → Nat) (w : World) (hN : N ≤ 255) (hl : PairsAt w o len A B) (h2 : BytesAt w o2 len2 C) (hlen : len ≤ 40) (hlen2 : len2 ≤ 60) :
    Calls Try.prog 3 #[.int .u8 N, .slice o len cap, .slice o2 len2 cap2] w fun e w' => e = .returned (.bool true) ∧ Quiet0 w w' := by
  have H1 := Lib.hid hl
  have H2 := Lib.hid h2
  clear hl h2
  have g1 : ¬ 40 < len := by omega
  have g2 : ¬ 60 < len2 := by omega
  go_enter Try.func3, Try.ntmps3
  go_wp2_with fail
  obtain ⟨m, hm⟩ : ∃ m : Nat, m = 1 + N % 20 := ⟨_, rfl⟩
  have hmc : (1 + (N : Int) % 20) = (m : Int) := by omega
  have hm0 : 0 < m := by omega
  have hm20 : m ≤ 20 := by omega
  rw [hmc]
  clear hmc hm
  refine (new_fs m _ (by omega) hm0).mono ?_; rintro e w1 ⟨rfl, ub, rb, hF, hfr1, hu, hr⟩
  have HF := Lib.hid hF
  clear hF
  have hs1 := hfr1.size
  go_wp2_with fail
  refine (new_fs m _ (by omega) hm0).mono ?_; rintro e w2 ⟨rfl, gu, gr, hG, hfr2, hgu, hgr⟩
  have HG := Lib.hid hG
  clear hG
  have hs2 := hfr2.size
  have hfl := HF.out.lts
  have HF2 := Lib.hid (HF.out.fr hfr2 (fun h => h) (fun h => h) (fun h => h))
  have hlog : Nat.log2 m ≤ 4 := by
    have : Nat.log2 m < 5 := (Nat.log2_lt (by omega)).2 (by omega)
    omega
  go_wp2_with fail
  generalize hfb : w.heap.size = fb at *
  generalize hgb : w1.heap.size = gb at *
  have hfr02 := hfr1.trans hfr2
  have HFB := Lib.hid hfb
  have HGB := Lib.hid hgb
  clear hfb hgb
  clear hfr1 hfr2 hs1 HF
  go_loopw [12] (fun t wr => ∃ k R sets st, k ≤ len ∧ t = .int .i64 (k : Nat) ∧ FS wr fb ub rb m R sets st ∧ FS wr gb gu gr m (fun x => x) m 0 ∧ Full k (fun j => A j % m) (fun j => B j % m) R ∧ Sound m (Full k (fun j => A j % m) (fun j => B j % m)) R ∧ st ≤ 20 * k ∧ Fr (fun _ => False) w wr) (fun t _ => len - (intOf t).toNat)
  case atStart => exact ⟨0, _, m, 0, Nat.zero_le _, rfl, HF2.out, HG.out, fun j hj => by omega, Sound.id _ _, by omega, hfr02⟩
  case round =>
    obtain ⟨k, R, sets, st, hk, rfl, hF, hG, hfull, hsound, hst, hfr⟩ := hrel
    have HFr := Lib.hid hF
    have HGr := Lib.hid hG
    have HFull := Lib.hid hfull
    have HSound := Lib.hid hsound
    clear hF hG hfull hsound
    by_cases hlt : k < len
    · obtain ⟨b, off, rfl, ca, cb, la, lb⟩ := H1.out.fr hfr k hlt
      have am : A k % m < m := Nat.mod_lt _ hm0
      have bm : B k % m < m := Nat.mod_lt _ hm0
      have wA : IntKind.i64.wrap ((A k : Nat) : Int) = ((A k : Nat) : Int) := IntWalk.i64_in _ (by omega)
      have wB : IntKind.i64.wrap ((B k : Nat) : Int) = ((B k : Nat) : Int) := IntWalk.i64_in _ (by omega)
      have tA : ((A k : Nat) : Int).tmod (m : Int) = ((A k % m : Nat) : Int) := by rw [Int.tmod_eq_emod_of_nonneg (by omega)]; simp
      have tB : ((B k : Nat) : Int).tmod (m : Int) = ((B k % m : Nat) : Int) := by rw [Int.tmod_eq_emod_of_nonneg (by omega)]; simp
      have hmz : ¬ m = 0 := by omega
      go_wp2_with fail
      refine wp_region_still_tail 17 (by kernel_rfl) (by kernel_rfl) ?_
      simp only [List.take_succ_cons, List.take_zero, List.drop_succ_cons, List.drop_zero]
      change wpStill _ _ (World.drew wr) _ _ _
      repeat still_step
      refine wpStill_nil ?_
      clear wA wB tA tB
      change wpList _ _ _ _ _ (World.drew wr)
      go_wp2_with fail
      refine (join_fsi fb ub rb m R sets st (A k % m) (B k % m) _ _ _ (by rfl) (by rfl) HFr.out.drew am bm (by omega)).mono ?_
      rintro e w3 ⟨x, y, s', st', hp, rfl, hF3, hst3, hst3', hfr3, hz3⟩
      have HF3 := Lib.hid hF3
      have HP := Lib.hid hp
      clear hF3 hp
      go_wp2
      go_roundw
      case rel =>
        have hfb := HFB.out
        refine ⟨k + 1, joined R x y, s', st', by omega, by go_num, HF3.out, ?_, ?_, ?_, by omega, ?_⟩
        · exact HGr.out.drew.fr hfr3 (by omega) (by omega) (by omega)
        · intro j hj
          by_cases e : j = k
          · subst e; exact joined_pair HP.out
          · exact joined_resp (HFull.out j (by omega))
        · exact (HSound.out.mono (fun S hS j hj => hS j (by omega))).joined am bm HP.out (fun S hS => hS k (by omega))
        · exact (hfr.trans (Fr.drew _ _)).trans' hfr3 (by omega)
      case measure => simp [intOf]; omega
    · have hkl : len = k := by omega
      subst hkl
      go_wp2_with fail
      go_loopw [13] (fun t wr2 => ∃ i S sets2 st2, i ≤ len2 ∧ t = .int .i64 (i : Nat) ∧ FS wr2 fb ub rb m R sets st ∧ FS wr2 gb gu gr m S sets2 st2 ∧ Sound m (Full len (fun j => A j % m) (fun j => B j % m)) S ∧ st2 ≤ 20 * i ∧ Fr (fun _ => False) w wr2) (fun t _ => len2 - (intOf t).toNat)
      case atStart => exact ⟨0, _, m, 0, Nat.zero_le _, rfl, HFr.out, HGr.out, Sound.id _ _, by omega, hfr⟩
      case round =>
        obtain ⟨i, S, sets2, st2, hi, rfl, hF, hG, hsound, hst2, hfr2⟩ := hrel
        have HF2 := Lib.hid hF
        have HG2 := Lib.hid hG
        have HS2 := Lib.hid hsound
        clear hF hG hsound
        by_cases hlt2 : i < len2 ∧ 0 < len
        · obtain ⟨hi2, hl0⟩ := hlt2
          obtain ⟨b2, off2, rfl, cc, lc⟩ := H2.out.fr hfr2 i hi2
          have hq : C i % len < len := Nat.mod_lt _ hl0
          obtain ⟨b, off, rfl, ca, cb, la, lb⟩ := H1.out.fr hfr2 (C i % len) hq
          go_wp2_with fail
          generalize hW : wr.alloc (.cells #[.int .u8 (A (C i % len)), .int .u8 (B (C i % len))] 31) = W
          have c0 : W.cell? ⟨wr.heap.size, 0, none⟩ = some (.int .u8 (A (C i % len))) := by rw [← hW]; unfold World.cell?; rw [heap_alloc_new]; rfl
          have c1 : W.cell? ⟨wr.heap.size, 1, none⟩ = some (.int .u8 (B (C i % len))) := by rw [← hW]; unfold World.cell?; rw [heap_alloc_new]; rfl
          have hfrW : Fr (fun _ => False) wr W := by rw [← hW]; exact Fr.alloc _ _ _
          have HF3 := Lib.hid (HF2.out.fr hfrW (fun h => h) (fun h => h) (fun h => h))
          have HG3 := Lib.hid (HG2.out.fr hfrW (fun h => h) (fun h => h) (fun h => h))
          clear hW ca cb cc HF2 HG2
          generalize wr.heap.size = xb at *
          have am : A (C i % len) % m < m := Nat.mod_lt _ hm0
          have bm : B (C i % len) % m < m := Nat.mod_lt _ hm0
          have HQ : Hid (C i % len < len) := hq
          clear hq
          generalize C i % len = q at *
          have wA : IntKind.i64.wrap ((A q : Nat) : Int) = ((A q : Nat) : Int) := IntWalk.i64_in _ (by omega)
          have wB : IntKind.i64.wrap ((B q : Nat) : Int) = ((B q : Nat) : Int) := IntWalk.i64_in _ (by omega)
          have tA : ((A q : Nat) : Int).tmod (m : Int) = ((A q % m : Nat) : Int) := by rw [Int.tmod_eq_emod_of_nonneg (by omega)]; simp
          have tB : ((B q : Nat) : Int).tmod (m : Int) = ((B q % m : Nat) : Int) := by rw [Int.tmod_eq_emod_of_nonneg (by omega)]; simp
          have hmz : ¬ m = 0 := by omega
          refine wp_region_still_tail 11 (by kernel_rfl) (by kernel_rfl) ?_
          simp only [List.take_succ_cons, List.take_zero, List.drop_succ_cons, List.drop_zero]
          change wpStill _ _ (World.drew W) _ _ _
          repeat still_step
          refine wpStill_nil ?_
          clear wA wB tA tB
          change wpList _ _ _ _ _ (World.drew W)
          go_wp2_with fail
          refine (join_fsi gb gu gr m S sets2 st2 (B q % m) (A q % m) _ _ _ (by rfl) (by rfl) HG3.out.drew bm am (by omega)).mono ?_
          rintro e w3 ⟨x, y, s', st', hp, rfl, hF4, hst3, hst3', hfr3, hz3⟩
          have HF4 := Lib.hid hF4
          have HP := Lib.hid hp
          clear hF4 hp
          go_wp2
          go_roundw
          case rel =>
            have hfb := HFB.out
            have hgb := HGB.out
            refine ⟨i + 1, joined S x y, s', st', by omega, by go_num, ?_, HF4.out, ?_, by omega, ?_⟩
            · exact HF3.out.drew.fr hfr3 (by omega) (by omega) (by omega)
            · exact (HS2.out).joined bm am HP.out (fun S hS => (hS q HQ.out).symm)
            · exact ((hfr2.trans hfrW).trans (Fr.drew _ _)).trans' hfr3 (by omega)
          case measure => simp [intOf]; omega
        · by_cases hi2 : i < len2
          all_goals
            try (have hd0 : decide (0 < len) = false := by (simp; omega))
            go_wp2_with fail
            have hst2b : st2 ≤ 1200 := by omega
            clear hlt2
            go_loopw [15] (fun t wr3 => ∃ k T sets3 st3, k ≤ len ∧ t = .int .i64 ((k : Nat) - 1 : Int) ∧ FS wr3 fb ub rb m R sets st ∧ FS wr3 gb gu gr m T sets3 st3 ∧ Sound m (Full len (fun j => A j % m) (fun j => B j % m)) T ∧ (∀ j, k ≤ j → j < len → T (A j % m) = T (B j % m)) ∧ st3 ≤ 1200 + 20 * (len - k) ∧ Fr (fun _ => False) w wr3) (fun t _ => (intOf t + 1).toNat)
            case atStart => exact ⟨len, S, sets2, st2, Nat.le_refl _, rfl, HF2.out, HG2.out, HS2.out, fun j h1 h2 => by omega, by omega, hfr2⟩
            case round =>
              obtain ⟨k, T, sets3, st3, hk3, rfl, hF, hG, hsound, hdone, hst3, hfr3⟩ := hrel
              have HF3 := Lib.hid hF
              have HG3 := Lib.hid hG
              have HS3 := Lib.hid hsound
              have HD3 := Lib.hid hdone
              clear hF hG hsound hdone
              by_cases hk0 : 0 < k
              · try (exfalso; omega)
                all_goals
                  obtain ⟨q, hq⟩ : ∃ q, k = q + 1 := ⟨k - 1, by omega⟩
                  subst hq
                  have ec : (((q + 1 : Nat) : Int) - 1) = (q : Int) := by omega
                  rw [ec]
                  have hql : q < len := by omega
                  obtain ⟨b, off, rfl, ca, cb, la, lb⟩ := H1.out.fr hfr3 q hql
                  have am : A q % m < m := Nat.mod_lt _ hm0
                  have bm : B q % m < m := Nat.mod_lt _ hm0
                  have wA : IntKind.i64.wrap ((A q : Nat) : Int) = ((A q : Nat) : Int) := IntWalk.i64_in _ (by omega)
                  have wB : IntKind.i64.wrap ((B q : Nat) : Int) = ((B q : Nat) : Int) := IntWalk.i64_in _ (by omega)
                  have tA : ((A q : Nat) : Int).tmod (m : Int) = ((A q % m : Nat) : Int) := by rw [Int.tmod_eq_emod_of_nonneg (by omega)]; simp
                  have tB : ((B q : Nat) : Int).tmod (m : Int) = ((B q % m : Nat) : Int) := by rw [Int.tmod_eq_emod_of_nonneg (by omega)]; simp
                  have hmz : ¬ m = 0 := by omega
                  clear ec
                  go_wp2_with fail
                  refine wp_region_still_tail 17 (by kernel_rfl) (by kernel_rfl) ?_
                  simp only [List.take_succ_cons, List.take_zero, List.drop_succ_cons, List.drop_zero]
                  change wpStill _ _ (World.drew wr) _ _ _
                  repeat still_step
                  refine wpStill_nil ?_
                  clear wA wB tA tB
                  change wpList _ _ _ _ _ (World.drew wr)
                  go_wp2_with fail
                  refine (join_fsi gb gu gr m T sets3 st3 (A q % m) (B q % m) _ _ _ (by rfl) (by rfl) HG3.out.drew am bm (by omega)).mono ?_
                  rintro e w4 ⟨x, y, s', st', hp, rfl, hG4, hst4, hst4', hfr4, hz4⟩
                  have HG4 := Lib.hid hG4
                  have HP := Lib.hid hp
                  clear hG4 hp
                  go_wp2
                  go_roundw
                  case rel =>
                    have hfb := HFB.out
                    have hgb := HGB.out
                    refine ⟨q, joined T x y, s', st', by omega, rfl, ?_, HG4.out, ?_, ?_, by omega, ?_⟩
                    · exact HF3.out.drew.fr hfr4 (by omega) (by omega) (by omega)
                    · exact (HS3.out).joined am bm HP.out (fun S hS => hS q hql)
                    · intro j h1 h2
                      by_cases e : j = q
                      · subst e; exact joined_pair HP.out
                      · exact joined_resp (HD3.out j (by omega) h2)
                    · exact (hfr3.trans (Fr.drew _ _)).trans' hfr4 (by omega)
                  case measure => simp [intOf]; try omega
              · have hk00 : k = 0 := by omega
                subst hk00
                have ec0 : (((0 : Nat) : Int) - 1) = -1 := rfl
                rw [ec0]
                clear ec0
                have HFT : Hid (Full len (fun j => A j % m) (fun j => B j % m) T) := fun j hj => HD3.out j (Nat.zero_le _) hj
                have HSR : Hid (Sound m (Full len (fun j => A j % m) (fun j => B j % m)) R) := HSound.out
                have HFR : Hid (Full len (fun j => A j % m) (fun j => B j % m) R) := HFull.out
                have HEQ : Hid (∀ x y, x < m → y < m → (R x == R y) = (T x == T y)) := fun x y hx hy => same_sets HFR.out HSR.out HFT.out HS3.out hx hy
                have HRT : Hid (sets = sets3) := by
                  rw [HF3.out.sets, HG3.out.sets]
                  exact same_roots HFR.out HSR.out HFT.out HS3.out (fun x hx => ⟨HF3.out.lt hx, HF3.out.fix hx⟩) (fun x hx => ⟨HG3.out.lt hx, HG3.out.fix hx⟩)
                have hb1 : st ≤ 800 := by omega
                have hb2 : st3 ≤ 2000 := by omega
                clear HFT HSR HFR HD3 HS3 HSound HFull HS2 hst hst2 hst2b hst3 hk3
                go_wp2_with fail
                go_loopw [6, 16] (fun _ t wr4 => ∃ i st4 st5, i ≤ m ∧ t = .int .i64 (i : Nat) ∧ FS wr4 fb ub rb m R sets st4 ∧ FS wr4 gb gu gr m T sets3 st5 ∧ st4 ≤ 800 + 400 * i ∧ st5 ≤ 2000 + 400 * i ∧ Fr (fun _ => False) w wr4) (fun _ t _ => m - (intOf t).toNat)
                case atStart => exact ⟨0, st, st3, Nat.zero_le _, rfl, HF3.out, HG3.out, by omega, by omega, hfr3⟩
                case round =>
                  obtain ⟨i, st4, st5, him, rfl, hF, hG, hst4, hst5, hfr4⟩ := hrel
                  have HF4 := Lib.hid hF
                  have HG4 := Lib.hid hG
                  clear hF hG
                  by_cases hi : i < m
                  · go_wp2_with fail
                    go_loopw [6, 17] (fun _ t wr5 => ∃ k st6 st7, k ≤ m ∧ t = .int .i64 (k : Nat) ∧ FS wr5 fb ub rb m R sets st6 ∧ FS wr5 gb gu gr m T sets3 st7 ∧ st6 ≤ 800 + 400 * i + 20 * k ∧ st7 ≤ 2000 + 400 * i + 20 * k ∧ Fr (fun _ => False) w wr5) (fun _ t _ => m - (intOf t).toNat)
                    case atStart => exact ⟨0, st4, st5, Nat.zero_le _, rfl, HF4.out, HG4.out, by omega, by omega, hfr4⟩
                    case round =>
                      obtain ⟨k, st6, st7, hkm, rfl, hF, hG, hst6, hst7, hfr5⟩ := hrel
                      have HF5 := Lib.hid hF
                      have HG5 := Lib.hid hG
                      clear hF hG
                      by_cases hk : k < m
                      · go_wp2_with fail
                        refine (same_fs fb ub rb m R sets st6 i k _ HF5.out hi hk (by omega)).mono ?_
                        rintro e w6 ⟨rfl, st8, hF6, ha1, ha2, hfr6, hz6⟩
                        have HF6 := Lib.hid hF6
                        have HG6 := Lib.hid (HG5.out.fr hfr6 (by have := HFB.out; have := HGB.out; omega) (by omega) (by omega))
                        clear hF6
                        go_wp2_with fail
                        refine (same_fs gb gu gr m T sets3 st7 i k _ HG6.out hi hk (by omega)).mono ?_
                        rintro e w7 ⟨rfl, st9, hG7, ha3, ha4, hfr7, hz7⟩
                        have HG7 := Lib.hid hG7
                        have HF7 := Lib.hid (HF6.out.fr hfr7 (by have := HFB.out; have := HGB.out; omega) (by omega) (by omega))
                        clear hG7
                        rw [HEQ.out i k hi hk]
                        generalize (T i == T k) = tv
                        cases tv
                        all_goals
                          go_wp2
                          go_roundw
                          case rel =>
                            have hfb := HFB.out
                            have hgb := HGB.out
                            exact ⟨k + 1, st8, st9, by omega, by go_num, HF7.out, HG7.out, by omega, by omega, (hfr5.trans' hfr6 (by omega)).trans' hfr7 (by omega)⟩
                          case measure => simp [intOf]; omega
                      · have hkm2 : k = m := by omega
                        subst hkm2
                        go_wp2
                        go_roundw
                        case rel => exact ⟨i + 1, st6, st7, by omega, by go_num, HF5.out, HG5.out, by omega, by omega, hfr5⟩
                        case measure => simp [intOf]; omega
                  · go_wp2_with fail
                    refine (sets_any fb sets _ HF4.out.c2).mono ?_; rintro e w5 ⟨rfl, rfl⟩
                    go_wp2_with fail
                    refine (sets_any gb sets3 _ HG4.out.c2).mono ?_; rintro e w5 ⟨rfl, rfl⟩
                    rw [HRT.out]
                    go_wp2_with fail
                    refine (awake_any _).mono ?_; rintro e w6 ⟨rfl, hq⟩
                    go_wp2
                    go_ret
                    exact ⟨rfl, hfr4.trans hq⟩
end Go.Proofs.Ytibemcofkgbjhaa
