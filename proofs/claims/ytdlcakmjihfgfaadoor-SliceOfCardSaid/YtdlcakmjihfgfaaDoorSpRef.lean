/-
  The document's Same, Has, Texts, Join, and span.Join. Conditions: the spans lie in memory as told; there are few.
-/
import Derived.Test.YtdlcakmjihfgfaaDoorSpMerge
import Derived.Test.YtdlcakmjihfgfaaDoorSpSmall
namespace Go.Proofs.YtdlcakmjihfgfaaDoor
open Go.RowKit Go.Shelf SpanPlain

set_option maxHeartbeats 1000000 in
theorem refSameS_any (a b : List Sp) (o : Option Addr) (cap : Nat) (p : Option Addr) (pc : Nat) (w : World) (R T : Nat → Prop) (hs : SpAt R w o a) (ht : SpAt T w p b) (_ : a.length ≤ 1000000) (hz' : b.length ≤ 1000000) :
    Calls Tryd.prog 17 #[.slice o a.length cap, .slice p b.length pc] w fun e w' => e = .returned (.bool (decide (a = b))) ∧ Quiet0 w w' := by
  have HS := Lib.hid hs
  have HT := Lib.hid ht
  clear hs ht
  by_cases hl : a.length = b.length
  · obtain ⟨res, hres⟩ : ∃ res, res = decide (a = b) := ⟨_, rfl⟩
    have HR0 := Lib.hid hres
    rw [← hres]
    clear hres
    generalize hn : b.length = n at *
    have HN := Lib.hid hn
    rw [hl]
    have HL := Lib.hid hl
    clear hn hl
    go_enter Tryd.func17, Tryd.ntmps17
    go_wp2_with fail
    go_loopw [5] (fun t wr => ∃ i : Nat, t = .int .i64 i ∧ i ≤ n ∧ a.take i = b.take i ∧ Quiet0 w wr) (fun t _ => n - (intOf t).toNat)
    case atStart => exact ⟨0, rfl, Nat.zero_le _, rfl, Quiet0.refl _⟩
    case round =>
      obtain ⟨i, rfl, hi, htk, hq⟩ := hrel
      have HTK := Lib.hid htk
      have HQ := Lib.hid hq
      clear htk hq
      by_cases hlt : i < n
      · have hlt' : (i : Int) < n := by omega
        obtain ⟨s, hs⟩ : ∃ s, a[i]? = some s := ⟨_, List.getElem?_eq_getElem (by have := HL.out; omega)⟩
        obtain ⟨t, ht⟩ : ∃ t, b[i]? = some t := ⟨_, List.getElem?_eq_getElem (by have := HN.out; omega)⟩
        obtain ⟨g1, off1, rfl, _, a0, a1⟩ := HS.out.stay HQ.out i s hs
        obtain ⟨g2, off2, rfl, _, b0, b1⟩ := HT.out.stay HQ.out i t ht
        have HSI := Lib.hid hs
        have HTI := Lib.hid ht
        obtain ⟨x, y⟩ := s
        obtain ⟨x', y'⟩ := t
        clear hs ht
        by_cases hx : x = x'
        · subst hx
          by_cases hy : y = y'
          · subst hy
            go_wp2_with fail
            go_quiet (fail)
            go_wp2_with fail
            go_roundw
            case rel => exact ⟨i + 1, by go_num, by omega, by rw [List.take_add_one, List.take_add_one, HTK.out, HSI.out, HTI.out], HQ.out.trans (Quiet0.drewN _ _)⟩
            case measure => simp [intOf]; omega
          · have HY : Hid (res = false) := by
              show _ = _
              rw [HR0.out]; simp only [decide_eq_false_iff_not]; intro e; have h1 := HSI.out; rw [e, HTI.out] at h1; simp at h1; exact hy h1.symm
            have e1 : (y == y') = false := by simpa using hy
            go_wp2_with fail
            go_quiet (fail)
            go_wp2_with fail
            go_ret
            exact ⟨by rw [HY.out]; rfl, HQ.out.trans (Quiet0.drewN _ _)⟩
        · have HY : Hid (res = false) := by
            show _ = _
            rw [HR0.out]; simp only [decide_eq_false_iff_not]; intro e; have h1 := HSI.out; rw [e, HTI.out] at h1; simp at h1; exact hx h1.1.symm
          have e1 : (x == x') = false := by simpa using hx
          go_wp2_with fail
          go_quiet (fail)
          go_wp2_with fail
          go_ret
          exact ⟨by rw [HY.out]; rfl, HQ.out.trans (Quiet0.drewN _ _)⟩
      · have hlt' : ¬ (i : Int) < n := by omega
        have HY : Hid (res = true) := by
          show _ = _
          have := HTK.out
          rw [List.take_of_length_le (by have := HL.out; omega), List.take_of_length_le (by have := HN.out; omega)] at this
          rw [HR0.out]; simpa using this
        go_wp2_with fail
        go_ret
        exact ⟨by rw [HY.out]; rfl, HQ.out⟩
  · have hd : decide (a = b) = false := by simp; intro h; exact hl (by rw [h])
    rw [hd]
    clear hd
    generalize a.length = m at *
    generalize b.length = n at *
    have hne : ((m : Int) == n) = false := by simp; omega
    have hne' : (m == n) = false := by simp; omega
    go_enter Tryd.func17, Tryd.ntmps17
    go_wp2_with fail
    go_ret
    exact ⟨rfl, Quiet0.refl _⟩
/-- the least span with all bytes of two -/
def joinS (a b : Sp) : Sp := if a.2 ≤ a.1 then (if b.2 ≤ b.1 then (0, 0) else b) else if b.2 ≤ b.1 then a else (min a.1 b.1, max a.2 b.2)
theorem noneS_eq (x y : Int) (w : World) : Calls Tryd.prog 47 #[.agg #[.int .i64 x, .int .i64 y]] w fun e w' => e = .returned (.bool (decide (y ≤ x))) ∧ w' = w.alloc (.cells #[.int .i64 x, .int .i64 y] 41) := by
  go_enter Tryd.func47, Tryd.ntmps47
  go_wp2_with fail
  all_goals (go_ret; exact ⟨by simp_all, rfl⟩)
end Go.Proofs.YtdlcakmjihfgfaaDoor
