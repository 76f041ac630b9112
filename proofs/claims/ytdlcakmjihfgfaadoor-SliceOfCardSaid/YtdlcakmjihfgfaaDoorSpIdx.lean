/-
  slices.IndexFunc and slices.ContainsFunc on spans; span.Right, span.Has, and the document's Has. Conditions: the spans lie in memory as told; there are few.
-/
import Derived.Test.YtdlcakmjihfgfaaDoorSpMem
namespace Go.Proofs.YtdlcakmjihfgfaaDoor
open Go.RowKit SpanPlain

def idxS (p : Sp → Bool) : List Sp → Nat → Int
  | [], _ => -1
  | t :: r, i => if p t then i else idxS p r (i + 1)
theorem idxS_any (p : Sp → Bool) : ∀ (l : List Sp) (i : Nat), decide (0 ≤ idxS p l i) = l.any p
  | [], i => rfl
  | t :: r, i => by
    unfold idxS
    rw [List.any_cons]
    cases h : p t
    · simp only [Bool.false_eq_true, if_false, Bool.false_or]; exact idxS_any p r (i + 1)
    · simp
theorem sp_drop {l : List Sp} {i : Nat} {t : Sp} (h : l[i]? = some t) : l.drop i = t :: l.drop (i + 1) := by
  have hi : i < l.length := by
    rcases Nat.lt_or_ge i l.length with h' | h'
    · exact h'
    · simp [List.getElem?_eq_none h'] at h
  rw [List.getElem?_eq_getElem hi] at h
  cases h
  exact List.drop_eq_getElem_cons hi
def PredS (g : Nat) (lb : Array Value) (w0 : World) (l : List Sp) (p : Sp → Bool) : Prop := ∀ t ∈ l, ∀ (W : World), Quiet0 w0 W → Calls Tryd.prog g (#[spv t] ++ lb) W fun e W' => e = .returned (.bool (p t)) ∧ Quiet0 W W'
set_option maxHeartbeats 1000000 in
theorem indexS_any (g : Nat) (lb : Array Value) (p : Sp → Bool) (eg : ∀ args w, (callFunc g args).run Tryd.prog w = .ok (.enter g args) w) (l : List Sp) (o : Option Addr) (cap : Nat) (w : World) (R : Nat → Prop) (hs : SpAt R w o l) (hp : PredS g lb w l p) (hz : l.length ≤ 1000000) :
    Calls Tryd.prog 65 #[.slice o l.length cap, .func (.func g) #[] lb] w fun e w' => e = .returned (.int .i64 (idxS p l 0)) ∧ Quiet0 w w' := by
  have HS := Lib.hid hs
  have HP := Lib.hid hp
  clear hs hp
  obtain ⟨res, hres⟩ : ∃ res, res = idxS p l 0 := ⟨_, rfl⟩
  have HR := Lib.hid hres
  rw [← hres]
  clear hres
  go_enter Tryd.func65, Tryd.ntmps65
  go_wp2_with fail
  go_loopw [8] (fun t wr => ∃ i : Nat, t = .int .i64 i ∧ i ≤ l.length ∧ res = idxS p (l.drop i) i ∧ Quiet0 w wr) (fun t _ => l.length - (intOf t).toNat)
  case atStart => exact ⟨0, rfl, Nat.zero_le _, HR.out, Quiet0.refl _⟩
  case round =>
    obtain ⟨i, rfl, hi, hr, hq⟩ := hrel
    have HRR := Lib.hid hr
    have HQ := Lib.hid hq
    clear hr hq
    by_cases hlt : i < l.length
    · have hlt' : (i : Int) < l.length := by omega
      obtain ⟨t, ht⟩ : ∃ t, l[i]? = some t := ⟨_, List.getElem?_eq_getElem hlt⟩
      obtain ⟨b, off, rfl, _, a0, a1⟩ := HS.out.stay HQ.out i t ht
      have HN : Hid (res = if p t then (i : Int) else idxS p (l.drop (i + 1)) (i + 1)) := by
        show _ = _
        rw [HRR.out, sp_drop ht]; rfl
      have HC := Lib.hid (HP.out t (List.mem_of_getElem? ht) wr HQ.out)
      clear ht
      cases hb : p t
      all_goals
        rw [hb] at HC HN
        clear hb
        go_wp2_with fail
        refine HC.out.mono ?_; rintro e w1 ⟨rfl, hq1⟩
        have HQ1 := Lib.hid (HQ.out.trans hq1)
        clear hq1
        go_wp2_with fail
      · go_roundw
        case rel => exact ⟨i + 1, by go_num, by omega, HN.out, HQ1.out⟩
        case measure => simp [intOf]; omega
      · go_ret
        exact ⟨by rw [HN.out]; rfl, HQ1.out⟩
    · have hlt' : ¬ (i : Int) < l.length := by omega
      have HY : Hid (res = -1) := by show _ = _; rw [HRR.out, List.drop_of_length_le (by omega)]; rfl
      go_wp2_with fail
      go_ret
      exact ⟨by rw [HY.out]; rfl, HQ.out⟩
/-- span.none -/
theorem noneS_any (x y : Int) (w : World) : Calls Tryd.prog 47 #[.agg #[.int .i64 x, .int .i64 y]] w fun e w' => e = .returned (.bool (decide (y ≤ x))) ∧ Quiet0 w w' := by
  have hc := Quiet0.alloc w (.cells #[.int .i64 x, .int .i64 y] 41)
  have HQ := Lib.hid hc
  clear hc
  go_enter Tryd.func47, Tryd.ntmps47
  go_wp2_with fail
  all_goals (go_ret; exact ⟨by simp_all, HQ.out⟩)
end Go.Proofs.YtdlcakmjihfgfaaDoor
