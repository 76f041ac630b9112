/-
  The reference's Find. Conditions: the binds lie in memory as told.
-/
import Derived.Test.YtggidhgifaekbaaDoorSuTable
namespace Go.Proofs.YtggidhgifaekbaaDoor
open Go.RowKit Go.Maps

/-- the place of a variable's first bind -/
def idxB (v : Int) : List Bd → Nat → Int
  | [], _ => -1
  | t :: r, i => if t.1 == v then i else idxB v r (i + 1)
theorem idxB_find (v : Int) : ∀ (l : List Bd) (i : Nat), (idxB v l i = -1 ∧ findB l v = none) ∨ (∃ (j : Nat) (t : Bd), idxB v l i = ((i + j : Nat) : Int) ∧ l[j]? = some t ∧ findB l v = some t)
  | [], i => .inl ⟨rfl, rfl⟩
  | t :: r, i => by
    unfold idxB findB
    rw [List.find?_cons]
    cases h : (t.1 == v)
    · simp only [Bool.false_eq_true, if_false]
      rcases idxB_find v r (i + 1) with ⟨h1, h2⟩ | ⟨j, u, h1, h2, h3⟩
      · exact .inl ⟨h1, h2⟩
      · exact .inr ⟨j + 1, u, by rw [h1]; congr 1; omega, by simpa using h2, h3⟩
    · simp only [if_true]
      exact .inr ⟨0, t, by simp, rfl, rfl⟩
set_option maxHeartbeats 1000000 in
theorem find_any (l : List Bd) (w : World) (o : Option Addr) (cap : Nat) (v : Int) (hs : BindsAt w o l) (hz : l.length ≤ 1000000) :
    Calls Tryd.prog 102 #[.slice o l.length cap, .int .i64 v] w fun e w' => e = .returned (.int .i64 (idxB v l 0)) ∧ Quiet0 w w' := by
  have HS := Lib.hid hs
  clear hs
  obtain ⟨res, hres⟩ : ∃ res, res = idxB v l 0 := ⟨_, rfl⟩
  have HR := Lib.hid hres
  rw [← hres]
  clear hres
  go_enter Tryd.func102, Tryd.ntmps102
  go_wp2_with fail
  go_loopw [5] (fun t wr => ∃ i : Nat, t = .int .i64 i ∧ i ≤ l.length ∧ res = idxB v (l.drop i) i ∧ Quiet0 w wr) (fun t _ => l.length - (intOf t).toNat)
  case atStart => exact ⟨0, rfl, Nat.zero_le _, HR.out, Quiet0.refl _⟩
  case round =>
    obtain ⟨i, rfl, hi, hr, hq⟩ := hrel
    have HRR := Lib.hid hr
    have HQ := Lib.hid hq
    clear hr hq
    by_cases hlt : i < l.length
    · have hlt' : (i : Int) < l.length := by omega
      obtain ⟨t, ht⟩ : ∃ t, l[i]? = some t := ⟨_, List.getElem?_eq_getElem hlt⟩
      obtain ⟨b, off, o1, len1, cap1, rfl, e0, e1, e2, e3, hs1⟩ := HS.out.stay HQ.out i t ht
      have HN : Hid (res = if t.1 == v then (i : Int) else idxB v (l.drop (i + 1)) (i + 1)) := by
        show _ = _
        rw [HRR.out, drop_some ht]; rfl
      generalize t.1 = x at *
      clear ht e1 e2 e3 hs1
      cases hx : (x == v)
      · rw [hx] at HN
        go_wp2_with fail
        go_roundw
        case rel => exact ⟨i + 1, by go_num, by omega, HN.out, HQ.out⟩
        case measure => simp [intOf]; omega
      · rw [hx] at HN
        go_wp2_with fail
        go_ret
        exact ⟨by rw [HN.out]; rfl, HQ.out⟩
    · have hlt' : ¬ (i : Int) < l.length := by omega
      have HY : Hid (res = -1) := by show _ = _; rw [HRR.out, List.drop_of_length_le (by omega)]; rfl
      go_wp2_with fail
      go_ret
      exact ⟨by rw [HY.out]; rfl, HQ.out⟩
end Go.Proofs.YtggidhgifaekbaaDoor
