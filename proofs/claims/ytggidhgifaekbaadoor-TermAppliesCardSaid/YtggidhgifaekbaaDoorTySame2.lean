/-
  The program's Same on types, with slices.EqualFunc. Condition: the types lie in memory as told.
-/
import Derived.Test.YtggidhgifaekbaaDoorTySame
import Derived.Test.YtggidhgifaekbaaDoorTyRight2
namespace Go.Proofs.YtggidhgifaekbaaDoor
open Go.RowKit

theorem eg_same : ∀ args w, (callFunc 52 args).run Tryd.prog w = .ok (.enter 52 args) w := enters_of Tryd.func52 (by kernel_rfl) rfl
def PSame (k n : Int) (ps : Fo) : Prop := ∀ (k' n' : Int) (ps' : Fo) (w : World) (o : Option Addr) (len cap : Nat) (o' : Option Addr) (len' cap' : Nat), Slc w o len ps → Slc w o' len' ps' →
  Calls Tryd.prog 52 #[tyv k n o len cap, tyv k' n' o' len' cap'] w fun e w' => e = .returned (.bool (sameT k n ps k' n' ps')) ∧ Quiet0 w w'
set_option maxRecDepth 100000 in
set_option maxHeartbeats 2000000 in
theorem equalFunc_any (ps ps' : Fo) (ih : ∀ i k n qs, ps.get i = some (k, n, qs) → PSame k n qs) (w : World) (o : Option Addr) (len cap : Nat) (o' : Option Addr) (len' cap' : Nat) (hs : Slc w o len ps) (hs' : Slc w o' len' ps') :
    Calls Tryd.prog 94 #[.slice o len cap, .slice o' len' cap', .func (.func 52) #[] #[]] w fun e w' => e = .returned (.bool (ps.same ps')) ∧ Quiet0 w w' := by
  have HS := Lib.hid hs
  have HS' := Lib.hid hs'
  have IH := Lib.hid ih
  have HL := Lib.hid hs.1
  have HL' := Lib.hid hs'.1
  have hmx := hs.2.1
  unfold maxLen at hmx
  have eg := eg_same
  clear hs hs' ih
  obtain ⟨res, hres⟩ : ∃ res, res = ps.same ps' := ⟨_, rfl⟩
  have HRES := Lib.hid hres
  rw [← hres]
  clear hres
  by_cases hlen : len = len'
  · subst hlen
    have b3 : ((len : Int) != (len : Int)) = false := by simp
    go_enter Tryd.func94, Tryd.ntmps94
    go_wp2_with fail
    go_loopw [17] (fun t wr => ∃ (i : Nat), t = .int .i64 i ∧ i ≤ len ∧ res = (ps.drop i).same (ps'.drop i) ∧ Quiet0 w wr) (fun t _ => len - (intOf t).toNat)
    case atStart => exact ⟨0, rfl, Nat.zero_le _, by rw [Fo.drop_zero, Fo.drop_zero]; exact HRES.out, Quiet0.refl _⟩
    case round =>
      obtain ⟨i, rfl, hi, hr, hq⟩ := hrel
      have HR := Lib.hid hr
      have HQ := Lib.hid hq
      clear hr hq
      by_cases hlt : i < len
      · have hlt' : (i : Int) < len := by omega
        obtain ⟨b, off, k1, n1, qs1, o1, len1, cap1, rfl, hd1, hg1, e0, e1, e2, hs1⟩ := (HS.out.stay HQ.out).nth hlt
        obtain ⟨b2, off2, k2, n2, qs2, o2, len2, cap2, rfl, hd2, hg2, f0, f1, f2, hs2⟩ := (HS'.out.stay HQ.out).nth hlt
        have hbl := World.block_lt_of_cell? _ _ e0
        have hbl2 := World.block_lt_of_cell? _ _ f0
        have HC := Lib.hid (fun (W : World) (hq : Quiet0 wr W) => IH.out i k1 n1 qs1 hg1 k2 n2 qs2 W o1 len1 cap1 o2 len2 cap2 (hs1.stay hq) (hs2.stay hq))
        have HN : Hid (res = (sameT k1 n1 qs1 k2 n2 qs2 && (ps.drop (i + 1)).same (ps'.drop (i + 1)))) := by
          show _ = _
          rw [HR.out, hd1, hd2, same_cons]
        unfold tyv at HC
        clear hd1 hg1 hs1 hd2 hg2 hs2
        cases hb : sameT k1 n1 qs1 k2 n2 qs2
        all_goals
          have HBV := Lib.hid hb
          rw [hb] at HC
          clear hb
          go_wp2_with fail
          refine (HC.out _ ((Quiet0.alloc _ _).trans (Quiet0.alloc _ _))).mono ?_; rintro e w1 ⟨rfl, hq1⟩
          have HQ1 := Lib.hid (HQ.out.trans (((Quiet0.alloc _ _).trans (Quiet0.alloc _ _)).trans hq1))
          clear hq1
          go_wp2_with fail
        · go_ret
          exact ⟨by rw [HN.out, HBV.out]; rfl, HQ1.out⟩
        · go_roundw
          case rel => exact ⟨i + 1, by go_num, by omega, by rw [HN.out, HBV.out]; rfl, HQ1.out⟩
          case measure => simp [intOf]; omega
      · have hlt' : ¬ (i : Int) < len := by omega
        have HY : Hid (res = true) := by
          show _ = _
          rw [HR.out, Fo.drop_end ps i (by have := HL.out; omega), Fo.drop_end ps' i (by have := HL'.out; omega)]; rfl
        go_wp2_with fail
        go_ret
        exact ⟨by rw [HY.out]; rfl, HQ.out⟩
  · have HF : Hid (res = false) := by
      show _ = _
      rw [HRES.out]
      cases h : ps.same ps'
      · rfl
      · exact absurd (Fo.same_length _ _ h) (by have := HL.out; have := HL'.out; omega)
    have b3 : ((len : Int) != (len' : Int)) = true := by simp; omega
    go_enter Tryd.func94, Tryd.ntmps94
    go_wp2_with fail
    go_ret
    exact ⟨by rw [HF.out]; rfl, Quiet0.refl _⟩
set_option maxHeartbeats 1000000 in
theorem same_any (k n : Int) (ps : Fo) : PSame k n ps := by
  refine Fo.ind' (T := PSame) ?_ k n ps
  intro k n ps ih k' n' ps' w o len cap o' len' cap' hs hs'
  have HC := Lib.hid (fun (W : World) (hq : Quiet0 w W) => equalFunc_any ps ps' ih W o len cap o' len' cap' (hs.stay hq) (hs'.stay hq))
  unfold sameT
  clear hs hs' ih
  generalize ps.same ps' = r at *
  cases hk : (k == k')
  · unfold tyv
    go_enter Tryd.func52, Tryd.ntmps52
    go_wp2_with fail
    go_ret
    exact ⟨rfl, (Quiet0.alloc _ _).trans (Quiet0.alloc _ _)⟩
  · cases hn : (n == n')
    · unfold tyv
      go_enter Tryd.func52, Tryd.ntmps52
      go_wp2_with fail
      go_ret
      exact ⟨rfl, (Quiet0.alloc _ _).trans (Quiet0.alloc _ _)⟩
    · unfold tyv
      go_enter Tryd.func52, Tryd.ntmps52
      go_wp2_with fail
      refine (HC.out _ ((Quiet0.alloc _ _).trans (Quiet0.alloc _ _))).mono ?_; rintro e w1 ⟨rfl, hq1⟩
      go_wp2_with fail
      go_ret
      exact ⟨by simp, ((Quiet0.alloc _ _).trans (Quiet0.alloc _ _)).trans hq1⟩
end Go.Proofs.YtggidhgifaekbaaDoor
