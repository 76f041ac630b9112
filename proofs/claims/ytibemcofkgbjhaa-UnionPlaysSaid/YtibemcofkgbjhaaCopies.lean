/-
  UnionCopies, the walk: it returns true and turns nothing that was there. Conditions: the pairs' cells are as told.
-/
import Derived.Test.YtibemcofkgbjhaaCopy
import Derived.Test.YtibemcofkgbjhaaOrder
namespace Go.Proofs.Ytibemcofkgbjhaa
open Go.RowKit

theorem refJoin_i (v : Value) (xs : List Nat) (a b : Nat) (ai bi : Int) (w : World) (ea : ai = a) (eb : bi = b) (h : IRow w v xs) (hl : xs.length ≤ 100000) (ha : a < xs.length) (hb : b < xs.length) :
    Calls Try.prog 14 #[v, .int .i64 ai, .int .i64 bi] w (RowNew (xs.map (jcol xs a b)) w) := by
  subst ea; subst eb; exact refJoin v xs a b w h hl ha hb

/-- colors and roots tell the same sets -/
def Agree (m : Nat) (xs : List Nat) (R : Nat → Nat) : Prop := xs.length = m ∧ ∀ x y, x < m → y < m → (xs.getD x 0 = xs.getD y 0 ↔ R x = R y)
theorem Agree.start (m : Nat) : Agree m (List.range m) (fun x => x) := by
  refine ⟨by simp, fun x y hx hy => ?_⟩
  simp [hx, hy]
theorem Agree.join {m : Nat} {xs : List Nat} {R : Nat → Nat} {a b r o : Nat} (h : Agree m xs R) (ha : a < m) (hb : b < m) (hp : (r = R a ∧ o = R b) ∨ (r = R b ∧ o = R a)) : Agree m (xs.map (jcol xs a b)) (joined R r o) := by
  have hl := h.1
  refine ⟨by simpa using hl, fun x y hx hy => ?_⟩
  have hg : ∀ z, z < m → (xs.map (jcol xs a b)).getD z 0 = jcol xs a b (xs.getD z 0) := by intro z hz; simp [show z < xs.length by omega]
  rw [hg x hx, hg y hy]
  have h1 := h.2 x y hx hy
  have h2 := h.2 x b hx hb
  have h3 := h.2 y b hy hb
  have h4 := h.2 x a hx ha
  have h5 := h.2 y a hy ha
  have h6 := h.2 a b ha hb
  generalize xs.getD x 0 = X at *
  generalize xs.getD y 0 = Y at *
  unfold jcol joined
  generalize xs.getD a 0 = A at *
  generalize xs.getD b 0 = B at *
  generalize R x = X' at *
  generalize R y = Y' at *
  generalize R a = A' at *
  generalize R b = B' at *
  have e2 : (X = B) = (X' = B') := propext h2
  have e3 : (Y = B) = (Y' = B') := propext h3
  simp only [e2, e3]
  rcases hp with ⟨e5, e6⟩ | ⟨e5, e6⟩ <;> rw [e5, e6] <;> (by_cases c1 : X' = B' <;> by_cases c2 : Y' = B' <;> by_cases c3 : X' = A' <;> by_cases c4 : Y' = A' <;> simp_all <;> omega)
theorem Agree.set {m : Nat} {xs : List Nat} {R : Nat → Nat} (h : Agree m xs R) {i : Nat} (hi : i < m) : colorSet xs i = (List.range m).filter (fun k => R k == R i) := by
  unfold colorSet
  rw [h.1]
  apply List.filter_congr
  intro k hk
  have hkm : k < m := by simpa using hk
  have hin : inB xs i = true := by simp [inB, h.1]; omega
  unfold colorP
  rw [hin, Bool.true_and, Bool.eq_iff_iff, beq_iff_eq, beq_iff_eq, Int.toNat_natCast]
  exact (h.2 i k hi hkm).trans eq_comm

def AddFs (gb gu gr n : Nat) (w w' : World) : Prop := (∃ o c, w'.cell? ⟨gb, 0, none⟩ = some (.slice o (n + 1) c)) ∧ Fr (fun k => k = gb ∨ k = gu ∨ k = gr) w w'
theorem add_fs (gb gu gr n : Nat) (R : Nat → Nat) (sets steps : Nat) (w : World) (h : FS w gb gu gr n R sets steps) (hn : n < 1048576) :
    Calls Try.prog 16 #[.pointer (some ⟨gb, 0, none⟩)] w fun e w' => e = .returned (.int .i64 n) ∧ AddFs gb gu gr n w w' := by
  have hsets : sets ≤ 1048576 := by
    rw [h.sets]; exact Nat.le_trans (Nat.le_trans (List.length_filter_le _ _) (by simp)) (Nat.le_of_lt hn)
  obtain ⟨up, rk, uc, rc, rfl, hf, hw⟩ := h
  refine (add_any gb _ _ up rk sets steps w (hf.toFV hw.len) hn hsets).mono ?_
  rintro e w' ⟨h1, uv', rv', ku, kr, hF, hfr, _⟩
  refine ⟨h1, ?_, hfr.mono (fun k _ hk => by simpa [Value.ownBlock, eq_comm] using hk)⟩
  obtain ⟨o, c, rfl⟩ := ownsRow_len hF.ups
  exact ⟨o, c, by simp [World.cell?, hF.blk]⟩

set_option maxRecDepth 100000 in
set_option maxHeartbeats 4000000 in
theorem unionCopies_walk (N : Nat) (o o2 : Option Addr) (len cap len2 cap2 : Nat) (A B C D : Nat → Nat) (w : World) (hN : N ≤ 255) (hl : PairsAt w o len A B) (h2 : PairsAt w o2 len2 C D) (hlen : len ≤ 40) (hlen2 : len2 ≤ 40) :
    Calls Try.prog 5 #[.int .u8 N, .slice o len cap, .slice o2 len2 cap2] w fun e w' => e = .returned (.bool true) ∧ Quiet0 w w' := by
  have H1 := Lib.hid hl
  have H2 := Lib.hid h2
  clear hl h2
  have g1 : ¬ 40 < len := by omega
  have g2 : ¬ 40 < len2 := by omega
  go_enter Try.func5, Try.ntmps5
  go_wp2_with fail
  obtain ⟨m, hm⟩ : ∃ m : Nat, m = 1 + N % 20 := ⟨_, rfl⟩
  have hmc : (1 + (N : Int) % 20) = (m : Int) := by omega
  have hm0 : 0 < m := by omega
  have hm20 : m ≤ 20 := by omega
  rw [hmc]
  clear hmc hm
  refine (new_fs m _ (by omega) hm0).mono ?_; rintro e w1 ⟨rfl, ub, rb, hF, hfr1, hu, hr⟩
  have HF := Lib.hid hF
  clear hF
  have hs1 := hfr1.size
  have hlog : Nat.log2 m ≤ 4 := by
    have : Nat.log2 m < 5 := (Nat.log2_lt (by omega)).2 (by omega)
    omega
  go_wp2_with fail
  refine (refNew m _ (by omega)).mono ?_; rintro e w2 ⟨v0, rfl, hI, hfr2, hb2⟩
  have HI := Lib.hid hI
  have HB2 := Lib.hid hb2
  have hfl := HF.out.lts
  have HF2 := Lib.hid (HF.out.fr hfr2 (fun h => h) (fun h => h) (fun h => h))
  clear hI hb2
  generalize hfb : w.heap.size = fb at *
  have HFB := Lib.hid hfb
  clear hfb
  generalize hL : w1.heap.size = L at *
  have HL := Lib.hid hL
  clear hL
  have hfr02 := hfr1.trans hfr2
  have hLw : L ≤ w2.heap.size := by rw [← HL.out]; exact hfr2.size
  clear hfr1 hfr2 HF
  go_wp2_with fail
  go_loopw [10, 11] (fun vv t wr => ∃ k R sets st xs, k ≤ len ∧ t = .int .i64 (k : Nat) ∧ FS wr fb ub rb m R sets st ∧ IRow wr vv xs ∧ Agree m xs R ∧ (∀ b, vv.ownBlock = some b → L ≤ b) ∧ st ≤ 20 * k ∧ Fr (fun _ => False) w wr ∧ L ≤ wr.heap.size) (fun _ t _ => len - (intOf t).toNat)
  case atStart => exact ⟨0, _, m, 0, _, Nat.zero_le _, rfl, HF2.out, HI.out, Agree.start m, HB2.out, by omega, hfr02, hLw⟩
  case round =>
    obtain ⟨k, R, sets, st, xs, hk, rfl, hF, hI, hag, hb, hst, hfr, hLr⟩ := hrel
    obtain ⟨vo, vc, hv⟩ := hI.form
    rw [hag.1] at hv
    subst hv
    have HFr := Lib.hid hF
    have HIr := Lib.hid hI
    have HA := Lib.hid hag
    have HBr := Lib.hid hb
    clear hF hI hag hb
    by_cases hlt : k < len
    · obtain ⟨b, off, rfl, ca, cb, la, lb⟩ := H1.out.fr hfr k hlt
      have am : A k % m < m := Nat.mod_lt _ hm0
      have bm : B k % m < m := Nat.mod_lt _ hm0
      have wA : IntKind.i64.wrap ((A k : Nat) : Int) = ((A k : Nat) : Int) := IntWalk.i64_in _ (by omega)
      have wB : IntKind.i64.wrap ((B k : Nat) : Int) = ((B k : Nat) : Int) := IntWalk.i64_in _ (by omega)
      have tA : ((A k : Nat) : Int).tmod (m : Int) = ((A k % m : Nat) : Int) := by rw [Int.tmod_eq_emod_of_nonneg (by omega)]; simp
      have tB : ((B k : Nat) : Int).tmod (m : Int) = ((B k % m : Nat) : Int) := by rw [Int.tmod_eq_emod_of_nonneg (by omega)]; simp
      have hmz : ¬ m = 0 := by omega
      go_wp2_with fail
      refine wp_region_still_tail 17 (by kernel_rfl) (by kernel_rfl) ?_
      simp only [List.take_succ_cons, List.take_zero, List.drop_succ_cons, List.drop_zero]
      change wpStill _ _ (World.drew wr) _ _ _
      repeat still_step
      refine wpStill_nil ?_
      change wpList _ _ _ _ _ (World.drew wr)
      have HtA := Lib.hid tA
      have HtB := Lib.hid tB
      clear wA wB tA tB
      go_wp2_with fail
      refine (join_fsi fb ub rb m R sets st (A k % m) (B k % m) _ _ _ (by rfl) (by rfl) HFr.out.drew am bm (by omega)).mono ?_
      rintro e w3 ⟨x, y, s', st', hp, rfl, hF3, hst3, hst3', hfr3, hz3⟩
      have HF3 := Lib.hid hF3
      have HP := Lib.hid hp
      have hI3 := HIr.out.fr ((Fr.drew (fun k => k = fb ∨ k = ub ∨ k = rb) wr).trans hfr3) (fun b hb hh => by have := HBr.out b hb; omega)
      have hL3 : L ≤ w3.heap.size := by have := hfr3.size; simp at this; omega
      have hfrw3 := (hfr.trans (Fr.drew _ _)).trans' hfr3 (by have := HFB.out; omega)
      have HI3 := Lib.hid hI3
      clear hF3 hp hI3 ca cb hfr
      obtain ⟨b', off', he, ca, cb, _, _⟩ := H1.out.fr hfrw3 k hlt
      simp at he
      obtain ⟨rfl, rfl⟩ := he
      have wA : IntKind.i64.wrap ((A k : Nat) : Int) = ((A k : Nat) : Int) := IntWalk.i64_in _ (by omega)
      have wB : IntKind.i64.wrap ((B k : Nat) : Int) = ((B k : Nat) : Int) := IntWalk.i64_in _ (by omega)
      have tA := HtA.out
      have tB := HtB.out
      go_wp2_with fail
      refine wp_region_still_tail 17 (by kernel_rfl) (by kernel_rfl) ?_
      simp only [List.take_succ_cons, List.take_zero, List.drop_succ_cons, List.drop_zero]
      change wpStill _ _ (World.drew w3) _ _ _
      repeat still_step
      refine wpStill_nil ?_
      change wpList _ _ _ _ _ (World.drew w3)
      clear wA wB tA tB
      go_wp2_with fail
      have hxl := HA.out.1
      have HXL := Lib.hid hxl
      have hx1 : xs.length ≤ 100000 := by omega
      have hx2 : A k % m < xs.length := by omega
      have hx3 : B k % m < xs.length := by omega
      clear hxl
      refine (refJoin_i (.slice vo m vc) xs (A k % m) (B k % m) _ _ (World.drew w3) (by simp) (by simp) HI3.out hx1 hx2 hx3).mono ?_
      rintro e w4 ⟨v', rfl, hI4, hfr4, hb4⟩
      have HI4 := Lib.hid hI4
      have HB4 := Lib.hid hb4
      have HF4 := Lib.hid (HF3.out.drew.fr hfr4 (fun h => h) (fun h => h) (fun h => h))
      clear hI4 hb4
      go_wp2
      go_roundw
      case rel =>
        refine ⟨k + 1, joined R x y, s', st', _, by omega, by go_num, HF4.out, HI4.out, HA.out.join am bm HP.out, ?_, by omega, (hfrw3.trans (Fr.drew _ _)).trans hfr4, by have := hfr4.size; simp at this; omega⟩
        intro b hb
        have h1 := HB4.out b hb
        simp at h1
        omega
      case measure => simp [intOf]; omega
    · have hkl : len = k := by omega
      subst hkl
      have hstb : st ≤ 800 := by omega
      clear hst hlt
      go_wp2_with fail
      refine (copy_any fb ub rb m R sets st _ HFr.out hm0).mono ?_
      rintro e w3 ⟨gb, gu, gr, rfl, hG, hfr3, hgb, hgu, hgr⟩
      have HG := Lib.hid hG
      have HF3 := Lib.hid (HFr.out.fr hfr3 (fun h => h) (fun h => h) (fun h => h))
      have HI3 := Lib.hid (HIr.out.fr hfr3 (fun k hk h => h))
      have hfl3 : fb < wr.heap.size ∧ ub < wr.heap.size ∧ rb < wr.heap.size := HFr.out.lts
      have HBW : Hid (∀ b, (Value.slice vo m vc).ownBlock = some b → b < wr.heap.size) := HIr.out.lt
      have hww : w.heap.size ≤ wr.heap.size := hfr.size
      have hfrw := hfr.trans hfr3
      have HWW := Lib.hid hww
      clear hG hfr hfr3 HFr HIr hww
      generalize wr.heap.size = W at *
      go_wp2_with fail
      go_loopw [13] (fun t wr2 => ∃ i T sets2 st2, i ≤ len2 ∧ t = .int .i64 (i : Nat) ∧ FS wr2 fb ub rb m R sets st ∧ FS wr2 gb gu gr m T sets2 st2 ∧ IRow wr2 (.slice vo m vc) xs ∧ st2 ≤ 800 + 20 * i ∧ Fr (fun _ => False) w wr2) (fun t _ => len2 - (intOf t).toNat)
      case atStart => exact ⟨0, R, sets, st, Nat.zero_le _, rfl, HF3.out, HG.out, HI3.out, by omega, hfrw⟩
      case round =>
        obtain ⟨i, T, sets2, st2, hi, rfl, hF, hG, hI, hst2, hfr4⟩ := hrel
        have HF4 := Lib.hid hF
        have HG4 := Lib.hid hG
        have HI4 := Lib.hid hI
        clear hF hG hI
        by_cases hlt2 : i < len2
        · obtain ⟨b2, off2, rfl, ca, cb, la, lb⟩ := H2.out.fr hfr4 i hlt2
          have am : C i % m < m := Nat.mod_lt _ hm0
          have bm : D i % m < m := Nat.mod_lt _ hm0
          have wA : IntKind.i64.wrap ((C i : Nat) : Int) = ((C i : Nat) : Int) := IntWalk.i64_in _ (by omega)
          have wB : IntKind.i64.wrap ((D i : Nat) : Int) = ((D i : Nat) : Int) := IntWalk.i64_in _ (by omega)
          have tA : ((C i : Nat) : Int).tmod (m : Int) = ((C i % m : Nat) : Int) := by rw [Int.tmod_eq_emod_of_nonneg (by omega)]; simp
          have tB : ((D i : Nat) : Int).tmod (m : Int) = ((D i % m : Nat) : Int) := by rw [Int.tmod_eq_emod_of_nonneg (by omega)]; simp
          have hmz : ¬ m = 0 := by omega
          go_wp2_with fail
          refine wp_region_still_tail 17 (by kernel_rfl) (by kernel_rfl) ?_
          simp only [List.take_succ_cons, List.take_zero, List.drop_succ_cons, List.drop_zero]
          change wpStill _ _ (World.drew wr) _ _ _
          repeat still_step
          refine wpStill_nil ?_
          clear wA wB tA tB
          change wpList _ _ _ _ _ (World.drew wr)
          go_wp2_with fail
          refine (join_fsi gb gu gr m T sets2 st2 (C i % m) (D i % m) _ _ _ (by rfl) (by rfl) HG4.out.drew am bm (by omega)).mono ?_
          rintro e w5 ⟨x, y, s', st', hp, rfl, hG5, hst3, hst3', hfr5, hz5⟩
          have HG5 := Lib.hid hG5
          have HF5 := Lib.hid (HF4.out.drew.fr hfr5 (by omega) (by omega) (by omega))
          have HI5 := Lib.hid (HI4.out.fr ((Fr.drew (fun k => k = gb ∨ k = gu ∨ k = gr) wr).trans hfr5) (fun b hb hh => by have := HBW.out b hb; omega))
          have hfr6 := (hfr4.trans (Fr.drew _ _)).trans' hfr5 (by have := HWW.out; omega)
          clear hG5
          go_wp2
          go_roundw
          case rel => exact ⟨i + 1, joined T x y, s', st', by omega, by go_num, HF5.out, HG5.out, HI5.out, by omega, hfr6⟩
          case measure => simp [intOf]; omega
        · have hil : len2 = i := by omega
          subst hil
          clear hlt2
          go_wp2_with fail
          refine (add_fs gb gu gr m T sets2 st2 _ HG4.out (by omega)).mono ?_
          rintro e w5 ⟨rfl, ⟨oo, cc, cg⟩, hfr5⟩
          have HF5 := Lib.hid (HF4.out.fr hfr5 (by omega) (by omega) (by omega))
          have HI5 := Lib.hid (HI4.out.fr hfr5 (fun b hb hh => by have := HBW.out b hb; omega))
          have hfr6 := hfr4.trans' hfr5 (by have := HWW.out; omega)
          have hgl5 : gb < w5.heap.size := World.block_lt_of_cell? w5 _ cg
          clear hfr4 hfr5 HF4 HG4 HI4
          have CG := Lib.hid cg
          clear cg
          go_wp2_with fail
          go_loopw [6, 14] (fun _ t wr3 => ∃ i st3, i ≤ m ∧ t = .int .i64 (i : Nat) ∧ FS wr3 fb ub rb m R sets st3 ∧ IRow wr3 (.slice vo m vc) xs ∧ wr3.cell? ⟨gb, 0, none⟩ = some (.slice oo (m + 1) cc) ∧ st3 ≤ 800 + 210 * i ∧ Fr (fun _ => False) w wr3) (fun _ t _ => m - (intOf t).toNat)
          case atStart => exact ⟨0, st, Nat.zero_le _, rfl, HF5.out, HI5.out, CG.out, by omega, hfr6⟩
          case round =>
            obtain ⟨i, st3, hi3, rfl, hF, hI, hcg, hst3, hfr7⟩ := hrel
            have HF7 := Lib.hid hF
            have HI7 := Lib.hid hI
            have CG7 := Lib.hid hcg
            have hgl7 : gb < wr.heap.size := World.block_lt_of_cell? wr _ hcg
            clear hF hI hcg
            by_cases hlt3 : i < m
            · have hmul : Hid ((m + 1) * (2 * Nat.log2 m + 2) ≤ 21 * 10) := Nat.mul_le_mul (by omega) (by omega)
              go_wp2_with fail
              refine (set_any fb ub rb m R sets st3 i _ HF7.out hlt3 (by have := hmul.out; omega) (by omega)).mono ?_
              rintro e w8 ⟨st8, v8, rfl, hF8, hs8, hs8', hI8, hb8, hfr8⟩
              have HF8 := Lib.hid hF8
              have HI8 := Lib.hid hI8
              have HS8 := Lib.hid (HI7.out.fr hfr8 (fun b hb hh => by have := HBr.out b hb; omega))
              have hfr9 := hfr7.trans' hfr8 (by have := HFB.out; omega)
              have cg8 := (hfr8.cellb (b := gb) (off := 0) hgl7 (by omega)).trans CG7.out
              have CG8 := Lib.hid cg8
              have hgl8 : gb < w8.heap.size := World.block_lt_of_cell? w8 _ cg8
              have HAL := Lib.hid HA.out.1
              clear hF8 hI8 hfr8 hfr7 HF7 HI7 cg8
              go_wp2_with fail
              refine (refSet _ xs i _ HS8.out (by have := HAL.out; omega)).mono ?_
              rintro e w9 ⟨v9, rfl, hI9, hfr10, hb9⟩
              have HI9 := Lib.hid hI9
              have HF9 := Lib.hid (HF8.out.fr hfr10 (fun h => h) (fun h => h) (fun h => h))
              have HS9 := Lib.hid (HS8.out.fr hfr10 (fun b hb hh => hh))
              have HI8' := Lib.hid (HI8.out.fr hfr10 (fun b hb hh => hh))
              have CG9 := Lib.hid ((hfr10.cellb (b := gb) (off := 0) hgl8 (fun h => h)).trans CG8.out)
              have hfr11 := hfr9.trans hfr10
              clear hI9 hfr10 hfr9
              go_wp2_with fail
              refine (refInts v8 v9 _ _ _ HI8'.out HI9.out (Nat.le_trans (filter_range_len _ _) (by omega)) (by rw [HA.out.set hlt3]; exact Nat.le_trans (filter_range_len _ _) (by omega))).mono ?_
              rintro e w10 ⟨rfl, nq, rfl⟩
              rw [HA.out.set hlt3]
              simp only [decide_true]
              have HF10 : Hid (FS (w9.drewN nq) fb ub rb m R sets st8) := HF9.out.fr (Fr.drewN (fun _ => False) w9 nq) (fun h => h) (fun h => h) (fun h => h)
              have HS10 : Hid (IRow (w9.drewN nq) (.slice vo m vc) xs) := HS9.out
              have CG10 : Hid ((w9.drewN nq).cell? ⟨gb, 0, none⟩ = some (.slice oo (m + 1) cc)) := CG9.out
              have hfr12 := hfr11.trans (Fr.drewN _ _ nq)
              go_wp2
              go_roundw
              case rel => exact ⟨i + 1, st8, by omega, by go_num, HF10.out, HS10.out, CG10.out, by have := hmul.out; omega, hfr12⟩
              case measure => simp [intOf]; omega
            · obtain ⟨uc, c0⟩ := HF7.out.c0
              have cg := CG7.out
              go_wp2_with fail
              refine (len_any fb m uc _ _ c0 (by omega)).mono ?_; rintro e w8 ⟨rfl, rfl⟩
              go_wp2_with fail
              refine (len_any gb (m + 1) cc _ _ cg (by omega)).mono ?_; rintro e w8 ⟨rfl, rfl⟩
              go_wp2_with fail
              refine (awake_any _).mono ?_; rintro e w8 ⟨rfl, hq⟩
              go_wp2
              go_ret
              exact ⟨rfl, hfr7.trans hq⟩

set_option maxRecDepth 100000 in
theorem unionCopies_big (N : Nat) (o o2 : Option Addr) (len cap len2 cap2 : Nat) (w : World) (h : 40 < len ∨ 40 < len2) :
    Calls Try.prog 5 #[.int .u8 N, .slice o len cap, .slice o2 len2 cap2] w fun e w' => e = .returned (.bool true) ∧ Quiet0 w w' := by
  by_cases h1 : 40 < len
  · clear h
    go_enter Try.func5, Try.ntmps5
    go_wp2_with fail
    refine (awake_any _).mono ?_; rintro e w6 ⟨rfl, hq⟩
    go_wp2
    go_ret
    exact ⟨rfl, hq⟩
  · have h2 : 40 < len2 := by omega
    clear h
    go_enter Try.func5, Try.ntmps5
    go_wp2_with fail
    refine (awake_any _).mono ?_; rintro e w6 ⟨rfl, hq⟩
    go_wp2
    go_ret
    exact ⟨rfl, hq⟩
theorem unionCopies_all (N : Nat) (o o2 : Option Addr) (len cap len2 cap2 : Nat) (A B C D : Nat → Nat) (w : World) (hN : N ≤ 255) (hl : PairsAt w o len A B) (h2 : PairsAt w o2 len2 C D) :
    Calls Try.prog 5 #[.int .u8 N, .slice o len cap, .slice o2 len2 cap2] w fun e w' => e = .returned (.bool true) ∧ Quiet0 w w' := by
  by_cases h : 40 < len ∨ 40 < len2
  · exact unionCopies_big N o o2 len cap len2 cap2 w h
  · exact unionCopies_walk N o o2 len cap len2 cap2 A B C D w hN hl h2 (by omega) (by omega)
end Go.Proofs.Ytibemcofkgbjhaa
