/-
  The reference's Same and Right on types. Condition: the types lie in memory as told.
-/
import Derived.Test.YtggidhgifaekbaaDoorTyRef
namespace Go.Proofs.YtggidhgifaekbaaDoor
open Go.RowKit

def sameT (k n : Int) (ps : Fo) (k' n' : Int) (ps' : Fo) : Bool := (k == k') && (n == n') && ps.same ps'
theorem same_cons (k n : Int) (ps r : Fo) (k' n' : Int) (ps' r' : Fo) : (Fo.cons k n ps r).same (Fo.cons k' n' ps' r') = (sameT k n ps k' n' ps' && r.same r') := by simp [Fo.same, sameT]
/-- ref.Same -/
def RSame (k n : Int) (ps : Fo) : Prop := ∀ (k' n' : Int) (ps' : Fo) (w : World) (o : Option Addr) (len cap : Nat) (o' : Option Addr) (len' cap' : Nat), Slc w o len ps → Slc w o' len' ps' →
  Calls Tryd.prog 19 #[tyv k n o len cap, tyv k' n' o' len' cap'] w fun e w' => e = .returned (.bool (sameT k n ps k' n' ps')) ∧ Quiet0 w w'
theorem box_cells2 (w : World) (k n : Int) (o : Option Addr) (len cap : Nat) (k' n' : Int) (o' : Option Addr) (len' cap' : Nat) (t : TypeId) (W : World) (hW : Quiet0 ((w.alloc (.cells #[.int .i64 k, .int .i64 n, .slice o len cap] t)).alloc (.cells #[.int .i64 k', .int .i64 n', .slice o' len' cap'] t)) W) :
    (W.cell? ⟨w.heap.size, 0, none⟩ = some (.int .i64 k) ∧ W.cell? ⟨w.heap.size, 1, none⟩ = some (.int .i64 n) ∧ W.cell? ⟨w.heap.size, 2, none⟩ = some (.slice o len cap)) ∧
    (W.cell? ⟨w.heap.size + 1, 0, none⟩ = some (.int .i64 k') ∧ W.cell? ⟨w.heap.size + 1, 1, none⟩ = some (.int .i64 n') ∧ W.cell? ⟨w.heap.size + 1, 2, none⟩ = some (.slice o' len' cap')) := by
  refine ⟨box_cells w k n o len cap t W ((Quiet0.alloc _ _).trans hW), ?_⟩
  have h := box_cells (w.alloc (.cells #[.int .i64 k, .int .i64 n, .slice o len cap] t)) k' n' o' len' cap' t W hW
  have e : (w.alloc (.cells #[.int .i64 k, .int .i64 n, .slice o len cap] t)).heap.size = w.heap.size + 1 := by simp
  rw [e] at h
  exact h

set_option maxRecDepth 100000 in
set_option maxHeartbeats 2000000 in
theorem refSame_any (k n : Int) (ps : Fo) : RSame k n ps := by
  refine Fo.ind' (T := RSame) ?_ k n ps
  intro k n ps ih k' n' ps' w o len cap o' len' cap' hs hs'
  have HS := Lib.hid hs
  have HS' := Lib.hid hs'
  have IH := Lib.hid ih
  have HL := Lib.hid hs.1
  have HL' := Lib.hid hs'.1
  have hmx := hs.2.1
  unfold maxLen at hmx
  clear hs hs' ih
  obtain ⟨res, hres⟩ : ∃ res, res = sameT k n ps k' n' ps' := ⟨_, rfl⟩
  have HRES := Lib.hid hres
  rw [← hres]
  clear hres
  by_cases hk : k = k'
  · by_cases hn : n = n'
    · by_cases hlen : len = len'
      · have HR2 : Hid (res = ps.same ps') := by show _ = _; rw [HRES.out]; simp [sameT, hk, hn]
        subst hk hn hlen
        have b1 : (k != k) = false := by simp
        have b2 : (n != n) = false := by simp
        have b3 : ((len : Int) != (len : Int)) = false := by simp
        unfold tyv
        go_enter Tryd.func19, Tryd.ntmps19
        go_wp2_with fail
        obtain ⟨W0, hW0⟩ : ∃ W0, W0 = (w.alloc (.cells #[.int .i64 k, .int .i64 n, .slice o len cap] 24)).alloc (.cells #[.int .i64 k, .int .i64 n, .slice o' len cap'] 24) := ⟨_, rfl⟩
        have HBB : Hid (∀ W, Quiet0 W0 W → W.cell? ⟨w.heap.size, 2, none⟩ = some (.slice o len cap) ∧ W.cell? ⟨w.heap.size + 1, 2, none⟩ = some (.slice o' len cap')) := by
          intro W hq; rw [hW0] at hq
          have := box_cells2 w k n o len cap k n o' len cap' _ W hq
          exact ⟨this.1.2.2, this.2.2.2⟩
        have HQ0 : Hid (Quiet0 w W0) := by rw [hW0]; exact (Quiet0.alloc _ _).trans (Quiet0.alloc _ _)
        change Code.wp _ _ _ _ ((w.alloc (.cells #[.int .i64 k, .int .i64 n, .slice o len cap] 24)).alloc (.cells #[.int .i64 k, .int .i64 n, .slice o' len cap'] 24))
        rw [← hW0]
        clear hW0
        generalize w.heap.size = nb at *
        go_loopw [5] (fun t wr => ∃ (i : Nat), t = .int .i64 i ∧ i ≤ len ∧ res = (ps.drop i).same (ps'.drop i) ∧ Quiet0 W0 wr) (fun t _ => len - (intOf t).toNat)
        case atStart => exact ⟨0, rfl, Nat.zero_le _, by rw [Fo.drop_zero, Fo.drop_zero]; exact HR2.out, Quiet0.refl _⟩
        case round =>
          obtain ⟨i, rfl, hi, hr, hq⟩ := hrel
          have HR := Lib.hid hr
          have HQ := Lib.hid hq
          obtain ⟨c1, c2⟩ := HBB.out wr hq
          clear hr hq
          by_cases hlt : i < len
          · have hlt' : (i : Int) < len := by omega
            obtain ⟨b, off, k1, n1, qs1, o1, len1, cap1, rfl, hd1, hg1, e0, e1, e2, hs1⟩ := (HS.out.stay (HQ0.out.trans HQ.out)).nth hlt
            obtain ⟨b2, off2, k2, n2, qs2, o2, len2, cap2, rfl, hd2, hg2, f0, f1, f2, hs2⟩ := (HS'.out.stay (HQ0.out.trans HQ.out)).nth hlt
            have HC := Lib.hid (fun (W : World) (hq : Quiet0 wr W) => IH.out i k1 n1 qs1 hg1 k2 n2 qs2 W o1 len1 cap1 o2 len2 cap2 (hs1.stay hq) (hs2.stay hq))
            have HN : Hid (res = (sameT k1 n1 qs1 k2 n2 qs2 && (ps.drop (i + 1)).same (ps'.drop (i + 1)))) := by
              show _ = _
              rw [HR.out, hd1, hd2, same_cons]
            unfold tyv at HC
            clear hd1 hg1 hs1 hd2 hg2 hs2
            cases hb : sameT k1 n1 qs1 k2 n2 qs2
            all_goals
              have HBV := Lib.hid hb
              clear hb
              go_wp2_with fail
              refine wp_region_still_tail 10 (by kernel_rfl) (by kernel_rfl) ?_
              simp only [List.take_succ_cons, List.take_zero, List.drop_succ_cons, List.drop_zero]
              change wpStill _ _ (World.drew wr) _ _ _
              repeat still_step
              refine wpStill_nil ?_
              change wpList _ _ _ _ _ (World.drew wr)
              go_wp2_with fail
              refine (HC.out _ (Quiet0.drew _)).mono ?_; rintro e w1 ⟨rfl, hq1⟩
              rw [HBV.out]
              have HQ1 := Lib.hid ((HQ.out.trans (Quiet0.drew _)).trans hq1)
              clear hq1
              go_wp2_with fail
            · go_ret
              exact ⟨by rw [HN.out, HBV.out]; rfl, HQ0.out.trans HQ1.out⟩
            · go_roundw
              case rel => exact ⟨i + 1, by go_num, by omega, by rw [HN.out, HBV.out]; rfl, HQ1.out⟩
              case measure => simp [intOf]; omega
          · have hlt' : ¬ (i : Int) < len := by omega
            have HY : Hid (res = true) := by
              show _ = _
              rw [HR.out, Fo.drop_end ps i (by have := HL.out; omega), Fo.drop_end ps' i (by have := HL'.out; omega)]; rfl
            go_wp2_with fail
            go_ret
            exact ⟨by rw [HY.out]; rfl, HQ0.out.trans HQ.out⟩
      · have HF : Hid (res = false) := by
          show _ = _
          rw [HRES.out]
          have : ps.same ps' = false := by
            cases h : ps.same ps'
            · rfl
            · exact absurd (Fo.same_length _ _ h) (by have := HL.out; have := HL'.out; omega)
          simp [sameT, this]
        subst hk hn
        have b1 : (k != k) = false := by simp
        have b2 : (n != n) = false := by simp
        have b3 : ((len : Int) != (len' : Int)) = true := by simp; omega
        unfold tyv
        go_enter Tryd.func19, Tryd.ntmps19
        go_wp2_with fail
        go_ret
        exact ⟨by rw [HF.out]; rfl, (Quiet0.alloc _ _).trans (Quiet0.alloc _ _)⟩
    · have HF : Hid (res = false) := by show _ = _; rw [HRES.out]; simp [sameT, hn]
      subst hk
      have b1 : (k != k) = false := by simp
      have b2 : (n != n') = true := by simpa using hn
      clear hn
      unfold tyv
      go_enter Tryd.func19, Tryd.ntmps19
      go_wp2_with fail
      go_ret
      exact ⟨by rw [HF.out]; rfl, (Quiet0.alloc _ _).trans (Quiet0.alloc _ _)⟩
  · have HF : Hid (res = false) := by show _ = _; rw [HRES.out]; simp [sameT, hk]
    have b1 : (k != k') = true := by simpa using hk
    clear hk
    unfold tyv
    go_enter Tryd.func19, Tryd.ntmps19
    go_wp2_with fail
    go_ret
    exact ⟨by rw [HF.out]; rfl, (Quiet0.alloc _ _).trans (Quiet0.alloc _ _)⟩
end Go.Proofs.YtggidhgifaekbaaDoor
