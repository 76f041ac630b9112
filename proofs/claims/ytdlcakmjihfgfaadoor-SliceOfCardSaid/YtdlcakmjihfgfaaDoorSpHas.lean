/-
  The document's Has of spans. Condition: the spans lie in memory as told.
-/
import Derived.Test.YtdlcakmjihfgfaaDoorSpIdx
namespace Go.Proofs.YtdlcakmjihfgfaaDoor
open Go.RowKit SpanPlain

def hasP (i : Int) (t : Sp) : Bool := decide (t.1 ≤ i) && decide (i < t.2)
set_option maxHeartbeats 1000000 in
/-- ref.Has -/
theorem refHasS_any (k : Int) (l : List Sp) (o : Option Addr) (cap : Nat) (w : World) (R : Nat → Prop) (hs : SpAt R w o l) (hz : l.length ≤ 1000000) :
    Calls Tryd.prog 15 #[.int .i64 k, .slice o l.length cap] w fun e w' => e = .returned (.bool (l.any (hasP k))) ∧ w = w' := by
  have HS := Lib.hid hs
  obtain ⟨res, hres⟩ : ∃ res, res = l.any (hasP k) := ⟨_, rfl⟩
  have HR0 : Hid (res = (l.drop 0).any (hasP k)) := hres
  rw [← hres]
  clear hs hres
  go_enter Tryd.func15, Tryd.ntmps15
  go_wp2_with fail
  go_loop [5] (fun t => ∃ i : Nat, t = .int .i64 i ∧ i ≤ l.length ∧ res = (l.drop i).any (hasP k)) (fun t => l.length - (intOf t).toNat)
  case atStart => exact ⟨0, rfl, Nat.zero_le _, HR0.out⟩
  case round =>
    obtain ⟨i, rfl, hi, hr⟩ := hrel
    have HR := Lib.hid hr
    clear hr
    by_cases hlt : i < l.length
    · have hlt' : (i : Int) < l.length := by omega
      obtain ⟨t, ht⟩ : ∃ t, l[i]? = some t := ⟨_, List.getElem?_eq_getElem hlt⟩
      obtain ⟨x, y⟩ := t
      obtain ⟨g1, off1, rfl, _, a0, a1⟩ := HS.out i _ ht
      have HN : Hid (res = (hasP k (x, y) || (l.drop (i + 1)).any (hasP k))) := by
        show _ = _
        rw [HR.out, sp_drop ht, List.any_cons]
      clear ht
      by_cases h1 : x ≤ k
      · by_cases h2 : k < y
        · have HH : Hid (hasP k (x, y) = true) := by show _ = _; unfold hasP; simp [h1, h2]
          go_wp2_with fail
          go_ret
          exact ⟨by rw [HN.out, HH.out]; rfl, rfl⟩
        · have HH : Hid (hasP k (x, y) = false) := by show _ = _; unfold hasP; simp; omega
          go_wp2_with fail
          go_round
          case rel => exact ⟨i + 1, by go_num, by omega, by rw [HN.out, HH.out]; rfl⟩
          case measure => simp [intOf]; omega
      · have HH : Hid (hasP k (x, y) = false) := by show _ = _; unfold hasP; simp; omega
        go_wp2_with fail
        go_round
        case rel => exact ⟨i + 1, by go_num, by omega, by rw [HN.out, HH.out]; rfl⟩
        case measure => simp [intOf]; omega
    · have hlt' : ¬ (i : Int) < l.length := by omega
      have HY : Hid (res = false) := by show _ = _; rw [HR.out, List.drop_of_length_le (by omega)]; rfl
      go_wp2_with fail
      go_ret
      exact ⟨by rw [HY.out]; rfl, rfl⟩
end Go.Proofs.YtdlcakmjihfgfaaDoor
