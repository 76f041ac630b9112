/-
  The laws' Great and Greats of chapter 10. Conditions: the rows lie in memory as told.
-/
import Derived.Test.YtdlcakmjihfgfaaDoorSuEq
import Derived.Test.YtdlcakmjihfgfaaDoorTyRef
import Derived.Test.YtdlcakmjihfgfaaDoorTyAux
namespace Go.Proofs.YtdlcakmjihfgfaaDoor
open Go.RowKit Go.Maps

def Few10 (l : List Bd) : Prop := l.length ≤ 24 ∧ ∀ t ∈ l, t.2.2.2.size ≤ 300
def FewEq (l : List Eqn) : Prop := l.length ≤ 60 ∧ ∀ t ∈ l, t.1.2.2.size ≤ 300 ∧ t.2.1.2.2.size ≤ 300
/-- a bool; if it is false, something is so -/
def BoolIf (P : Prop) (w : World) (e : Ending) (w' : World) : Prop := ∃ g : Bool, e = .returned (.bool g) ∧ (g = false → P) ∧ Quiet0 w w'
set_option maxHeartbeats 4000000 in
set_option maxRecDepth 100000 in
theorem greats_any (l : List Eqn) (w : World) (o : Option Addr) (cap : Nat) (hs : EqsAt w o l) (hz : l.length ≤ 9223372036854775807) :
    Calls Tryd.prog 16 #[.slice o l.length cap] w (BoolIf (FewEq l) w) := by
  have HS := Lib.hid hs
  clear hs
  go_enter Tryd.func16, Tryd.ntmps16
  go_wp2_with fail
  go_loopw [2, 3, 4] (fun _ s t wr => ∃ (i : Nat) (n : Int), t = .int .i64 i ∧ s = .int .i64 n ∧ i ≤ l.length ∧ i ≤ 70 ∧ 0 ≤ n ∧ n ≤ 600 * i ∧ (∀ t ∈ l.take i, t.1.2.2.size ≤ 300 ∧ t.2.1.2.2.size ≤ 300) ∧ Quiet0 w wr) (fun _ _ t _ => 70 - (intOf t).toNat)
  case atStart => exact ⟨0, 0, rfl, rfl, Nat.zero_le _, by omega, by omega, by omega, (fun t h => by simp at h), Quiet0.refl _⟩
  case round =>
    obtain ⟨i, n, rfl, rfl, hi, hi2, hn0, hn1, hal, hq⟩ := hrel
    have HAL := Lib.hid hal
    have HQ := Lib.hid hq
    clear hal hq
    by_cases hlt : i < l.length
    · have hlt' : (i : Int) < l.length := by omega
      by_cases h30 : i < 70
      · have h30' : (i : Int) < 70 := by omega
        obtain ⟨t, ht⟩ : ∃ t, l[i]? = some t := ⟨_, List.getElem?_eq_getElem hlt⟩
        obtain ⟨b, off, o1, l1, c1, o2, l2, c2, rfl, a0, a1, a2, a3, a4, a5, a6, a7, s1, s2⟩ := HS.out.stay HQ.out i t ht
        have HGR := Lib.hid (great_any t.1.1 t.1.2.1 t.1.2.2 wr o1 l1 c1 s1)
        have HGR2 := Lib.hid (fun (W : World) (hq : Quiet0 wr W) => great_any t.2.1.1 t.2.1.2.1 t.2.1.2.2 W o2 l2 c2 (s2.stay hq))
        have HSZ := Lib.hid (fun (W : World) (hq : Quiet0 wr W) (hz : t.1.2.2.size ≤ 1000000) => refSize_any t.1.1 t.1.2.1 t.1.2.2 W o1 l1 c1 (s1.stay hq) hz)
        have HSZ2 := Lib.hid (fun (W : World) (hq : Quiet0 wr W) (hz : t.2.1.2.2.size ≤ 1000000) => refSize_any t.2.1.1 t.2.1.2.1 t.2.1.2.2 W o2 l2 c2 (s2.stay hq) hz)
        have HNT : Hid (t.1.2.2.size ≤ 300 → t.2.1.2.2.size ≤ 300 → ∀ u ∈ l.take (i + 1), u.1.2.2.size ≤ 300 ∧ u.2.1.2.2.size ≤ 300) := by
          intro hz hz2 u hu
          rw [List.take_add_one, ht] at hu
          rcases List.mem_append.1 hu with h | h
          · exact HAL.out u h
          · have : u = t := by simpa using h
            rw [this]; exact ⟨hz, hz2⟩
        unfold tyv at HGR HGR2 HSZ HSZ2
        rw [show off + i * 8 + 4 = off + i * 8 + 3 + 1 from rfl] at a4
        rw [show off + i * 8 + 5 = off + i * 8 + 3 + 2 from rfl] at a5
        clear a6 a7
        cases hg : greatF t.1.2.2
        · cases hg2 : greatF t.2.1.2.2
          · have hgz := great_size hg
            have hgz2 := great_size hg2
            have HZA := Lib.hid (fun (W : World) (hq : Quiet0 wr W) => HSZ.out W hq (by omega))
            have HZB := Lib.hid (fun (W : World) (hq : Quiet0 wr W) => HSZ2.out W hq (by omega))
            have hx0 : (0 : Int) ≤ ((t.1.2.2.size + 1 : Nat) : Int) := by omega
            have hx1 : ((t.1.2.2.size + 1 : Nat) : Int) ≤ 300 := by omega
            have hy0 : (0 : Int) ≤ ((t.2.1.2.2.size + 1 : Nat) : Int) := by omega
            have hy1 : ((t.2.1.2.2.size + 1 : Nat) : Int) ≤ 300 := by omega
            have HNT2 := Lib.hid (HNT.out (by omega) (by omega))
            rw [hg] at HGR
            rw [hg2] at HGR2
            generalize ((t.1.2.2.size + 1 : Nat) : Int) = sx at *
            generalize ((t.2.1.2.2.size + 1 : Nat) : Int) = sy at *
            generalize t.1.1 = k1 at *
            generalize t.1.2.1 = n1 at *
            generalize t.2.1.1 = k2 at *
            generalize t.2.1.2.1 = n2 at *
            have hw : IntKind.i64.wrap (n + sx) = n + sx := IntWalk.i64_in _ (by omega)
            have hw2 : IntKind.i64.wrap (n + sx + sy) = n + sx + sy := IntWalk.i64_in _ (by omega)
            clear hg hg2 hgz hgz2 ht HSZ HSZ2 HNT s1 s2
            go_wp2_with fail
            refine HGR.out.mono ?_; rintro e w1 ⟨rfl, hq1⟩
            have HQ1 := Lib.hid hq1
            have b0 := hq1.at a0
            have b1 := hq1.at a1
            have b2 := hq1.at a2
            have b3 := hq1.at a3
            have b4 := hq1.at a4
            have b5 := hq1.at a5
            clear hq1 a0 a1 a2 a3 a4 a5
            go_wp2_with fail
            refine (HGR2.out _ HQ1.out).mono ?_; rintro e w2 ⟨rfl, hq2⟩
            have HQ2 := Lib.hid (HQ1.out.trans hq2)
            have a0 := hq2.at b0
            have a1 := hq2.at b1
            have a2 := hq2.at b2
            have a3 := hq2.at b3
            have a4 := hq2.at b4
            have a5 := hq2.at b5
            clear hq2 b0 b1 b2 b3 b4 b5
            have HZA2 := Lib.hid (fun (W : World) (hq : Quiet0 w2 W) => HZA.out W (HQ2.out.trans hq))
            have HZB2 := Lib.hid (fun (W : World) (hq : Quiet0 w2 W) => HZB.out W (HQ2.out.trans hq))
            have HLB : Hid (∀ w', Quiet0 w2 w' → (w'.cell? ⟨b, off + i * 8, none⟩ = some (.int .i64 k1) ∧ w'.cell? ⟨b, off + i * 8 + 1, none⟩ = some (.int .i64 n1) ∧ w'.cell? ⟨b, off + i * 8 + 2, none⟩ = some (.slice o1 l1 c1)) ∧ w'.cell? ⟨b, off + i * 8 + 3, none⟩ = some (.int .i64 k2) ∧ w'.cell? ⟨b, off + i * 8 + 3 + 1, none⟩ = some (.int .i64 n2) ∧ w'.cell? ⟨b, off + i * 8 + 3 + 2, none⟩ = some (.slice o2 l2 c2)) := fun W h => ⟨⟨h.at a0, h.at a1, h.at a2⟩, h.at a3, h.at a4, h.at a5⟩
            have hqc := Quiet0.refl w2
            go_wp2_with fail
            go_region_held3 (fun w' => (w'.cell? ⟨b, off + i * 8, none⟩ = some (.int .i64 k1) ∧ w'.cell? ⟨b, off + i * 8 + 1, none⟩ = some (.int .i64 n1) ∧ w'.cell? ⟨b, off + i * 8 + 2, none⟩ = some (.slice o1 l1 c1)) ∧ w'.cell? ⟨b, off + i * 8 + 3, none⟩ = some (.int .i64 k2) ∧ w'.cell? ⟨b, off + i * 8 + 3 + 1, none⟩ = some (.int .i64 n2) ∧ w'.cell? ⟨b, off + i * 8 + 3 + 2, none⟩ = some (.slice o2 l2 c2))
              (((refine HLB.out _ ?_); (repeat (first | with_reducible exact hqc | with_reducible exact Quiet0.refl _ | with_reducible refine Quiet0.trans ?_ (Quiet0.alloc _ _) | with_reducible refine Quiet0.trans ?_ (Quiet0.drew _) | fail))))
              (first
                | (go_at_call 33; (with_reducible refine Calls.mono (HZA2.out _ ?hq) ?_); (case hq => (repeat (first | with_reducible exact hqc | with_reducible exact Quiet0.refl _ | with_reducible refine Quiet0.trans ?_ (Quiet0.alloc _ _) | with_reducible refine Quiet0.trans ?_ (Quiet0.drew _) | fail))); rintro e wx ⟨rfl, hqx⟩; (refine with_q (w0 := w2) ?hq2 hqx ?_); (case hq2 => (repeat (first | with_reducible exact hqc | with_reducible exact Quiet0.refl _ | with_reducible refine Quiet0.trans ?_ (Quiet0.alloc _ _) | with_reducible refine Quiet0.trans ?_ (Quiet0.drew _) | fail))); intro hqc)
                | (go_at_call 33; (with_reducible refine Calls.mono (HZB2.out _ ?hq) ?_); (case hq => (repeat (first | with_reducible exact hqc | with_reducible exact Quiet0.refl _ | with_reducible refine Quiet0.trans ?_ (Quiet0.alloc _ _) | with_reducible refine Quiet0.trans ?_ (Quiet0.drew _) | fail))); rintro e wx ⟨rfl, hqx⟩; (refine with_q (w0 := w2) ?hq2 hqx ?_); (case hq2 => (repeat (first | with_reducible exact hqc | with_reducible exact Quiet0.refl _ | with_reducible refine Quiet0.trans ?_ (Quiet0.alloc _ _) | with_reducible refine Quiet0.trans ?_ (Quiet0.drew _) | fail))); intro hqc)
                | fail)
            all_goals
              go_wp2_with fail
              go_roundw
              case rel => exact ⟨i + 1, n + sx + sy, by go_num, rfl, by omega, by omega, by omega, by omega, HNT2.out, (HQ.out.trans HQ2.out).trans hqc⟩
              case measure => simp [intOf]; omega
          · rw [hg] at HGR
            rw [hg2] at HGR2
            generalize t.1.1 = k1 at *
            generalize t.1.2.1 = n1 at *
            generalize t.2.1.1 = k2 at *
            generalize t.2.1.2.1 = n2 at *
            clear hg hg2 ht HSZ HSZ2 HNT s1 s2
            go_wp2_with fail
            refine HGR.out.mono ?_; rintro e w1 ⟨rfl, hq1⟩
            have HQ1 := Lib.hid hq1
            have b3 := hq1.at a3
            have b4 := hq1.at a4
            have b5 := hq1.at a5
            clear hq1
            go_wp2_with fail
            refine (HGR2.out _ HQ1.out).mono ?_; rintro e w2 ⟨rfl, hq2⟩
            have HQ2 := Lib.hid ((HQ.out.trans HQ1.out).trans hq2)
            clear hq2
            go_wp2_with fail
            go_ret
            exact ⟨true, rfl, (fun h => by cases h), HQ2.out⟩
        · rw [hg] at HGR
          generalize t.1.1 = k1 at *
          generalize t.1.2.1 = n1 at *
          clear hg ht HSZ HSZ2 HNT s1 s2
          go_wp2_with fail
          refine HGR.out.mono ?_; rintro e w1 ⟨rfl, hq1⟩
          have HQ1 := Lib.hid (HQ.out.trans hq1)
          clear hq1
          go_wp2_with fail
          go_ret
          exact ⟨true, rfl, (fun h => by cases h), HQ1.out⟩
      · have h30' : ¬ (i : Int) < 70 := by omega
        have h24 : (60 : Int) < l.length := by omega
        go_wp2_with fail
        go_ret
        exact ⟨true, rfl, (fun h => by cases h), HQ.out⟩
    · have hlt' : ¬ (i : Int) < l.length := by omega
      have hil : i = l.length := by omega
      have htk : l.take i = l := List.take_of_length_le (by omega)
      rw [htk] at HAL
      clear htk
      by_cases h24 : (60 : Int) < l.length
      · go_wp2_with fail
        go_ret
        exact ⟨true, rfl, (fun h => by cases h), HQ.out⟩
      · go_wp2_with fail
        go_ret
        exact ⟨_, rfl, (fun _ => ⟨by omega, HAL.out⟩), HQ.out⟩
end Go.Proofs.YtdlcakmjihfgfaaDoor
