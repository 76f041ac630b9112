/-
  The documents' Ints (are two rows of numbers the same?); whether a variable stands in a type, told by its variables. Conditions: the rows lie in memory as told; they are short.
-/
import Derived.Test.YtggidhgifaekbaaDoorTyRefVars2
import Derived.BigQuiet
namespace Go.Proofs.YtggidhgifaekbaaDoor
open Go.RowKit Go.Maps

theorem has_vars (v : Int) : ∀ (f : Fo) (l : List Int), foldF (hasStep v) (inB l v) f = inB (Fo.vars l f) v
  | .nil, l => rfl
  | .cons k n ps r, l => by
    rw [vars_cons]
    show foldF (hasStep v) (foldF (hasStep v) (hasStep v (inB l v) k n ps) ps) r = _
    have h : hasStep v (inB l v) k n ps = inB (varStep l k n ps) v := by
      unfold hasStep varStep
      cases hk : (k == 1)
      · simp
      · cases hin : inB l n
        · simp only [Bool.true_and, Bool.not_false, if_true]
          rw [inB_snoc]
          congr 1
          rw [Bool.eq_iff_iff]; simp; exact eq_comm
        · simp only [Bool.true_and, Bool.not_true, if_false, Bool.false_eq_true]
          by_cases he : n = v
          · subst he; rw [hin]; rfl
          · have : (n == v) = false := by simp [he]
            rw [this, Bool.or_false]
    rw [h, has_vars v ps, has_vars v r]
theorem hasT_vars (v k n : Int) (ps : Fo) : hasT v k n ps = inB (Fo.vars [] (.cons k n ps .nil)) v := by
  rw [← has_vars v (.cons k n ps .nil) []]; rfl
set_option maxHeartbeats 1000000 in
set_option maxRecDepth 100000 in
theorem ints_any (a : Option Addr) (ca : Nat) (b : Option Addr) (cb : Nat) (la lb : List Int) (w : World) (ha : IntsAt w a la) (hb : IntsAt w b lb) (hz : la.length ≤ 1000000) :
    Calls Tryd.prog 49 #[.slice a la.length ca, .slice b lb.length cb] w fun e w' => e = .returned (.bool (la == lb)) ∧ Quiet0 w w' := by
  have HA := Lib.hid ha
  have HB := Lib.hid hb
  clear ha hb
  obtain ⟨res, hres⟩ : ∃ res, res = (la == lb) := ⟨_, rfl⟩
  have HRES := Lib.hid hres
  rw [← hres]
  clear hres
  by_cases hlen : la.length = lb.length
  · have b3 : ((la.length : Int) != (lb.length : Int)) = false := by simp [hlen]
    have HLE := Lib.hid hlen
    go_enter Tryd.func49, Tryd.ntmps49
    go_wp2_with fail
    go_loopw [5] (fun t wr => ∃ (i : Nat), t = .int .i64 i ∧ i ≤ la.length ∧ res = (la.drop i == lb.drop i) ∧ Quiet0 w wr) (fun t _ => la.length - (intOf t).toNat)
    case atStart => exact ⟨0, rfl, Nat.zero_le _, HRES.out, Quiet0.refl _⟩
    case round =>
      obtain ⟨i, rfl, hi, hr, hq⟩ := hrel
      have HR := Lib.hid hr
      have HQ := Lib.hid hq
      clear hr hq
      by_cases hlt : i < la.length
      · have hlt' : (i : Int) < la.length := by omega
        have hltb : (i : Int) < lb.length := by omega
        have hltb' : i < lb.length := by omega
        obtain ⟨x, hx⟩ : ∃ x, la[i]? = some x := ⟨_, List.getElem?_eq_getElem hlt⟩
        obtain ⟨y, hy⟩ : ∃ y, lb[i]? = some y := ⟨_, List.getElem?_eq_getElem hltb'⟩
        obtain ⟨ba, oa, rfl, c1⟩ := HA.out.stay HQ.out i x hx
        obtain ⟨bb, ob, rfl, c2⟩ := HB.out.stay HQ.out i y hy
        have HN : Hid (res = ((x == y) && (la.drop (i + 1) == lb.drop (i + 1)))) := by
          show _ = _
          rw [HR.out, drop_some hx, drop_some hy]; rfl
        clear hx hy
        cases hxy : (x != y)
        · have hxy' : (x == y) = true := by simpa using hxy
          rw [hxy'] at HN
          go_wp2_with fail
          go_quiet (fail)
          go_wp2_with fail
          go_roundw
          case rel => exact ⟨i + 1, by go_num, by omega, by rw [HN.out]; rfl, HQ.out.trans (Quiet0.drewN _ _)⟩
          case measure => simp [intOf]; omega
        · have hxy' : (x == y) = false := by simpa using hxy
          rw [hxy'] at HN
          go_wp2_with fail
          go_quiet (fail)
          go_wp2_with fail
          go_ret
          exact ⟨by rw [HN.out]; rfl, HQ.out.trans (Quiet0.drewN _ _)⟩
      · have hlt' : ¬ (i : Int) < la.length := by omega
        have HY : Hid (res = true) := by
          show _ = _
          rw [HR.out, List.drop_of_length_le (by omega), List.drop_of_length_le (by have := HLE.out; omega)]; rfl
        go_wp2_with fail
        go_ret
        exact ⟨by rw [HY.out]; rfl, HQ.out⟩
  · have b3 : ((la.length : Int) != (lb.length : Int)) = true := by simp; omega
    have HF : Hid (res = false) := by
      show _ = _
      rw [HRES.out]
      cases h : (la == lb)
      · rfl
      · exact absurd (by have := eq_of_beq h; rw [this]) hlen
    go_enter Tryd.func49, Tryd.ntmps49
    go_wp2_with fail
    go_ret
    exact ⟨by rw [HF.out]; rfl, Quiet0.refl _⟩
end Go.Proofs.YtggidhgifaekbaaDoor
