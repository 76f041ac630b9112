/-
  span.clip. Conditions: the spans lie in memory as told; there are few; the text is short.
-/
import Derived.Test.YtdlcakmjihfgfaaDoorSpMerge
import Derived.Test.YtdlcakmjihfgfaaDoorBlk
namespace Go.Proofs.YtdlcakmjihfgfaaDoor
open Go.RowKit Go.Shelf SpanPlain

def toZ (p : Nat × Nat) : Sp := ((p.1 : Int), (p.2 : Int))
def clipZ1 (n : Int) (s : Sp) : Option Sp := if max 0 s.1 < min n s.2 then some (max 0 s.1, min n s.2) else none
def clipZ (n : Int) (m : List Sp) : List Sp := m.filterMap (clipZ1 n)
theorem clipZ_N (n : Nat) (m : List Sp) : clipZ n m = (clipN n m).map toZ := by
  unfold clipZ clipN
  induction m with
  | nil => rfl
  | cons s m ih =>
    rw [List.filterMap_cons, List.filterMap_cons, ih]
    unfold clipZ1 clip1
    by_cases c : max 0 s.1 < min (n : Int) s.2
    · rw [if_pos c, if_pos c]
      simp only [List.map_cons]
      congr 1
      unfold toZ
      rw [Int.toNat_of_nonneg (by omega), Int.toNat_of_nonneg (by omega)]
    · rw [if_neg c, if_neg c]
theorem clipZ_step (n : Int) {m : List Sp} {i : Nat} {x y : Int} (h : m[i]? = some (x, y)) : clipZ n (m.take (i + 1)) = clipZ n (m.take i) ++ (if max 0 x < min n y then [(max 0 x, min n y)] else []) := by
  unfold clipZ
  rw [List.take_add_one, h, List.filterMap_append]
  congr 1
  simp only [Option.toList_some, List.filterMap_cons, List.filterMap_nil, clipZ1]
  by_cases c : max 0 x < min n y
  · rw [if_pos c, if_pos c]
  · rw [if_neg c, if_neg c]
theorem clipN_mem {n : Nat} {m : List Sp} {p : Nat × Nat} (h : p ∈ clipN n m) : p.1 < p.2 ∧ p.2 ≤ n := by
  unfold clipN at h
  rw [List.mem_filterMap] at h
  obtain ⟨s, _, hs⟩ := h
  unfold clip1 at hs
  by_cases c : max 0 s.1 < min (n : Int) s.2
  · rw [if_pos c] at hs
    cases hs
    exact ⟨by show (max 0 s.1).toNat < (min (n : Int) s.2).toNat; omega, by show (min (n : Int) s.2).toNat ≤ n; omega⟩
  · rw [if_neg c] at hs; cases hs
theorem clipN_length (n : Nat) (m : List Sp) : (clipN n m).length ≤ m.length := List.length_filterMap_le _ _
set_option maxRecDepth 100000 in
set_option maxHeartbeats 4000000 in
theorem clipS_any (n : Int) (l : List Sp) (o : Option Addr) (cap : Nat) (w : World) (R : Nat → Prop) (hs : SpAt R w o l) (hz : l.length ≤ 100000) (hm : (rmerge l).length ≤ 1000000) :
    Calls Tryd.prog 31 #[.int .i64 n, .slice o l.length cap] w (SpPost w (clipZ n (rmerge l))) := by
  have HM := Lib.hid (merge_any l o cap w R hs hz)
  obtain ⟨m, hme⟩ : ∃ m, rmerge l = m := ⟨_, rfl⟩
  rw [hme] at HM hm
  rw [hme]
  obtain ⟨res, hres⟩ : ∃ res, clipZ n m = res := ⟨_, rfl⟩
  have HRES := Lib.hid hres
  rw [hres]
  clear hs hme hres
  go_enter Tryd.func31, Tryd.ntmps31
  go_wp2_with fail
  refine HM.out.mono ?_; rintro e w1 ⟨v1, rfl, hr1, hq1⟩
  obtain ⟨o1, c1, rfl, hmx1⟩ := hr1.form
  have HR1 := Lib.hid hr1.slc
  have HQ1 := Lib.hid hq1
  clear hr1 hq1 HM
  go_wp2_with fail
  go_loopw [5, 11] (fun v t wr => ∃ (i : Nat) (out : List Sp), t = .int .i64 i ∧ i ≤ m.length ∧ SpRow wr w1.heap.size v out ∧ clipZ n (m.take i) = out ∧ out.length ≤ i ∧ Quiet0 w1 wr) (fun _ t _ => m.length - (intOf t).toNat)
  case atStart => exact ⟨0, [], rfl, Nat.zero_le _, SpRow.nil _ _, rfl, Nat.zero_le _, Quiet0.refl _⟩
  case round =>
    obtain ⟨i, out, rfl, hi, hrow, hr, hoi, hq⟩ := hrel
    have HROW := Lib.hid hrow
    have HR := Lib.hid hr
    have HQ := Lib.hid hq
    obtain ⟨vo, vc, rfl, hmx⟩ := hrow.form
    by_cases hlt : i < m.length
    · have hlt' : (i : Int) < m.length := by omega
      obtain ⟨s, hsi⟩ : ∃ s, m[i]? = some s := ⟨_, List.getElem?_eq_getElem hlt⟩
      obtain ⟨x, y⟩ := s
      obtain ⟨b, off, rfl, _, a0, a1⟩ := HR1.out.stay hq i _ hsi
      have HDR := Lib.hid (clipZ_step n hsi)
      obtain ⟨xa, hxa⟩ : ∃ xa, xa = max 0 x := ⟨_, rfl⟩
      obtain ⟨ya, hya⟩ : ∃ ya, ya = min n y := ⟨_, rfl⟩
      rw [← hxa, ← hya] at HDR
      obtain ⟨W0, hW0⟩ : ∃ W0, W0 = wr.alloc (.cells #[.int .i64 xa, .int .i64 ya] 41) := ⟨_, rfl⟩
      have HQ0 : Hid (Quiet0 wr W0) := by rw [hW0]; exact Quiet0.alloc _ _
      have HB0 : Hid (W0.heap[wr.heap.size]? = some (.cells #[.int .i64 xa, .int .i64 ya] 41 (0, 0))) := by rw [hW0]; exact heap_alloc_new wr _
      have b0 : W0.cell? ⟨wr.heap.size, 0, none⟩ = some (.int .i64 xa) := by rw [cell_of_row _ _ _ _ _ (0, 0) HB0.out]; rfl
      have b1 : W0.cell? ⟨wr.heap.size, 1, none⟩ = some (.int .i64 ya) := by rw [cell_of_row _ _ _ _ _ (0, 0) HB0.out]; rfl
      have HZ0 : Hid (W0.heap.size = wr.heap.size + 1) := by show _ = _; rw [hW0]; simp
      have HN := Lib.hid (noneS_any xa ya W0)
      clear hsi hrow hr hq
      go_upto_region 6 with fail
      rw [← hxa, ← hya, ← hW0]
      clear hW0 hxa hya
      by_cases hc : xa < ya
      · have hd : decide (ya ≤ xa) = false := by simp; omega
        rw [hd] at HN
        rw [if_pos hc] at HDR
        clear hd hc
        go_wp2_with fail
        refine HN.out.mono ?_; rintro e w2 ⟨rfl, hqn⟩
        have d0 := hqn.at b0
        have d1 := hqn.at b1
        have hq2 := HQ0.out.trans hqn
        have HQN := Lib.hid hq2
        clear b0 b1 hqn hq2
        go_wp2_with (at_builtin; refine wpList_append_one w2 rfl (.tmp 26) (.tmp 28) 22 rfl 41 _ 2 16 elemSp (.slice vo out.length vc) out.length (flat out) rfl (HROW.out.stay HQN.out).own #[.int .i64 xa, .int .i64 ya] rfl rfl (by simp [Value.oneCell']) (by unfold maxLen; omega) (by omega) ?_; intro g c' w4 ho hf hg)
        have hq2 := HQN.out
        have HR2 : Hid (SpRow w4 w1.heap.size (.slice (some ⟨g, 0, none⟩) (out.length + 1) c') (out ++ [(xa, ya)])) := by
          show SpRow _ _ _ _
          exact SpRow.snoc (x := xa) (y := ya) (HROW.out.stay hq2) ho hg (Nat.le_trans HQ.out.size hq2.size)
        have HQ2 : Hid (Quiet0 w1 w4) := Lib.hid (Fr.trans' (HQ.out.trans hq2) hf (fun kk hkk h => by have := HROW.out.low kk h; omega))
        clear ho hf hg hq2
        go_wp2_with fail
        go_roundw
        case rel => exact ⟨i + 1, out ++ [(xa, ya)], by go_num, by omega, HR2.out, by rw [HDR.out, HR.out], by rw [List.length_append, List.length_singleton]; omega, HQ2.out⟩
        case measure => simp [intOf]; omega
      · have hd : decide (ya ≤ xa) = true := by simp; omega
        rw [hd] at HN
        rw [if_neg hc, List.append_nil] at HDR
        clear hd hc
        go_wp2_with fail
        refine HN.out.mono ?_; rintro e w2 ⟨rfl, hqn⟩
        have hq2 := HQ0.out.trans hqn
        have HQ2 := Lib.hid hq2
        clear hq2 hqn
        go_wp2_with fail
        go_roundw
        case rel => exact ⟨i + 1, out, by go_num, by omega, HROW.out.stay HQ2.out, by rw [HDR.out, HR.out], by omega, HQ.out.trans HQ2.out⟩
        case measure => simp [intOf]; omega
    · have hlt' : ¬ (i : Int) < m.length := by omega
      have hfin : out = res := by rw [List.take_of_length_le (by omega)] at hr; rw [← hr]; exact HRES.out
      have HFIN := Lib.hid hfin
      clear hfin hrow hr hq
      go_wp2_with fail
      go_ret
      refine ⟨_, rfl, ?_, HQ1.out.trans HQ.out⟩
      rw [← HFIN.out]
      exact ⟨HROW.out.own, fun k hk => Nat.le_trans HQ1.out.size (HROW.out.low k hk)⟩
theorem toZ_get {c : List (Nat × Nat)} {i : Nat} {p : Nat × Nat} (h : c[i]? = some p) : (c.map toZ)[i]? = some ((p.1 : Int), (p.2 : Int)) := by
  rw [List.getElem?_map, h]; rfl
end Go.Proofs.YtdlcakmjihfgfaaDoor
