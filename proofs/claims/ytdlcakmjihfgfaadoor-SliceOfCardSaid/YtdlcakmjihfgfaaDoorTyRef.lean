/-
  The reference on types (Size, Depth, Same, Right, In) and the law's bound (room, Great). Conditions: the types lie in memory as told; where numbers are added up, there are few types.
-/
import Derived.Test.YtdlcakmjihfgfaaDoorTyMem
import Derived.StillTailTactics
import Derived.BigQuiet
namespace Go.Proofs.YtdlcakmjihfgfaaDoor
open Go.RowKit

theorem ret_int {k : IntKind} {a b : Int} (h : a = b) : Ending.returned (.int k a) = .returned (.int k b) := by rw [h]

/-- ref.Size -/
def RSize (k n : Int) (ps : Fo) : Prop := ∀ (w : World) (o : Option Addr) (len cap : Nat), Slc w o len ps → ps.size ≤ 1000000 →
  Calls Tryd.prog 33 #[tyv k n o len cap] w fun e w' => e = .returned (.int .i64 ((ps.size + 1 : Nat) : Int)) ∧ Quiet0 w w'
set_option maxHeartbeats 1000000 in
theorem refSize_any (k n : Int) (ps : Fo) : RSize k n ps := by
  refine Fo.ind' (T := RSize) ?_ k n ps
  intro k n ps ih w o len cap hs hsz
  have HS := Lib.hid hs
  have IH := Lib.hid ih
  have hl := hs.1
  have hll := Fo.length_le ps
  rw [← hl] at hll
  have HL := Lib.hid hl
  clear hs ih hl
  unfold tyv
  go_enter Tryd.func33, Tryd.ntmps33
  go_wp2_with fail
  obtain ⟨W0, hW0⟩ : ∃ W0, W0 = w.alloc (.cells #[.int .i64 k, .int .i64 n, .slice o len cap] 63) := ⟨_, rfl⟩
  have HB : Hid (∀ W, Quiet0 W0 W → W.cell? ⟨w.heap.size, 2, none⟩ = some (.slice o len cap)) := by
    intro W hq; rw [hW0] at hq; exact (box_cells w k n o len cap _ W hq).2.2
  have HQ0 : Hid (Quiet0 w W0) := by rw [hW0]; exact Quiet0.alloc _ _
  change Code.wp _ _ _ _ (w.alloc (.cells #[.int .i64 k, .int .i64 n, .slice o len cap] 63))
  rw [← hW0]
  clear hW0
  generalize w.heap.size = nb at *
  go_loopw [3, 4] (fun s t wr => ∃ (i m : Nat), t = .int .i64 i ∧ s = .int .i64 m ∧ i ≤ len ∧ m + (ps.drop i).size = ps.size + 1 ∧ Quiet0 W0 wr) (fun _ t _ => len - (intOf t).toNat)
  case atStart => exact ⟨0, 1, rfl, rfl, Nat.zero_le _, by rw [Fo.drop_zero]; omega, Quiet0.refl _⟩
  case round =>
    obtain ⟨i, m, rfl, rfl, hi, hm, hq⟩ := hrel
    have HM := Lib.hid hm
    have HQ := Lib.hid hq
    have c2 := HB.out wr hq
    clear hm hq
    by_cases hlt : i < len
    · have hlt' : (i : Int) < len := by omega
      obtain ⟨b, off, k', n', qs, o', len', cap', rfl, hd, hg, e0, e1, e2, hs'⟩ := (HS.out.stay (HQ0.out.trans HQ.out)).nth hlt
      have hsq := Fo.size_get ps i k' n' qs hg
      have hdd := Fo.size_drop ps (i + 1)
      have HD : Hid (m + (qs.size + 1) + (ps.drop (i + 1)).size = ps.size + 1) := by
        have := HM.out; rw [hd] at this; simp only [Fo.size] at this; show _ = _; omega
      have HC := Lib.hid (IH.out i k' n' qs hg wr o' len' cap' hs' (by omega))
      have hm2 : m ≤ 1000001 := by have := HM.out; omega
      have hqs : qs.size ≤ 1000001 := by omega
      unfold tyv at HC
      clear hd hg hs' hsq hdd
      go_wp2_with fail
      refine HC.out.mono ?_; rintro e w1 ⟨rfl, hq1⟩
      have HQ1 := Lib.hid (HQ.out.trans hq1)
      clear hq1
      go_wp2_with fail
      go_roundw
      case rel => exact ⟨i + 1, m + (qs.size + 1), by go_num, by go_num, by omega, HD.out, HQ1.out⟩
      case measure => simp [intOf]; omega
    · have hlt' : ¬ (i : Int) < len := by omega
      go_wp2_with fail
      go_ret
      refine ⟨ret_int (a := (m : Nat)) ?_, HQ0.out.trans HQ.out⟩
      have := HM.out
      rw [Fo.drop_end ps i (by have := HL.out; omega)] at this
      simp only [Fo.size] at this
      omega

/-- numbers in a row -/
def IntsAt (w : World) (o : Option Addr) (l : List Int) : Prop := ∀ i x, l[i]? = some x → ∃ b off, o = some ⟨b, off, none⟩ ∧ w.cell? ⟨b, off + i, none⟩ = some (.int .i64 x)
theorem IntsAt.stay {w w' : World} {o : Option Addr} {l : List Int} (h : IntsAt w o l) (hq : Quiet0 w w') : IntsAt w' o l := by
  intro i x hi
  obtain ⟨b, off, ho, hc⟩ := h i x hi
  exact ⟨b, off, ho, hq.at hc⟩
theorem drop_some {α : Type} {l : List α} {k : Nat} {t : α} (h : l[k]? = some t) : l.drop k = t :: l.drop (k + 1) := by
  obtain ⟨hl, rfl⟩ := List.getElem?_eq_some_iff.1 h
  exact List.drop_eq_getElem_cons hl
/-- the law's room -/
def LRoom (k n : Int) (ps : Fo) : Prop := ∀ (w : World) (o : Option Addr) (len cap : Nat) (d : Nat) (m : Int) (di : Int), di = d → Slc w o len ps → 0 ≤ m → m ≤ 100000 → d ≤ 100000 →
  Calls Tryd.prog 48 #[tyv k n o len cap, .int .i64 m, .int .i64 di] w fun e w' => e = .returned (.int .i64 (if d = 0 then -1 else Fo.room (d - 1) (m - 1) ps)) ∧ Quiet0 w w'
set_option maxHeartbeats 2000000 in
theorem room_any (k n : Int) (ps : Fo) : LRoom k n ps := by
  refine Fo.ind' (T := LRoom) ?_ k n ps
  intro k n ps ih w o len cap d m di ed hs hm0 hm1 hd1
  subst ed
  have HS := Lib.hid hs
  have IH := Lib.hid ih
  have HL := Lib.hid hs.1
  have hmx := hs.2.1
  unfold maxLen at hmx
  clear hs ih
  by_cases hd0 : d = 0
  · subst hd0
    unfold tyv
    go_enter Tryd.func48, Tryd.ntmps48
    go_wp2_with fail
    go_ret
    exact ⟨rfl, Quiet0.alloc _ _⟩
  · obtain ⟨D, hD⟩ : ∃ D, D = d - 1 := ⟨_, rfl⟩
    have hd0' : ((d : Int) == 0) = false := by simp; omega
    have hdD : d = D + 1 := by omega
    obtain ⟨res, hres⟩ : ∃ res, res = Fo.room D (m - 1) ps := ⟨_, rfl⟩
    have HRES := Lib.hid hres
    have HF : Hid ((if d = 0 then -1 else Fo.room (d - 1) (m - 1) ps) = res) := by show _ = _; rw [if_neg (by omega), ← hD, hres]
    rw [HF.out]
    have HDD := Lib.hid hdD
    have hD1 : D ≤ 100000 := by omega
    have hd1' : 1 ≤ d := by omega
    clear hres hd0 hD hdD
    unfold tyv
    go_enter Tryd.func48, Tryd.ntmps48
    go_wp2_with fail
    obtain ⟨W0, hW0⟩ : ∃ W0, W0 = w.alloc (.cells #[.int .i64 k, .int .i64 n, .slice o len cap] 63) := ⟨_, rfl⟩
    have HB0 : Hid (∀ W, Quiet0 W0 W → W.cell? ⟨w.heap.size, 0, none⟩ = some (.int .i64 k)) := by
      intro W hq; rw [hW0] at hq; exact (box_cells w k n o len cap _ W hq).1
    have HB1 : Hid (∀ W, Quiet0 W0 W → W.cell? ⟨w.heap.size, 1, none⟩ = some (.int .i64 n)) := by
      intro W hq; rw [hW0] at hq; exact (box_cells w k n o len cap _ W hq).2.1
    have HB : Hid (∀ W, Quiet0 W0 W → W.cell? ⟨w.heap.size, 2, none⟩ = some (.slice o len cap)) := by
      intro W hq; rw [hW0] at hq; exact (box_cells w k n o len cap _ W hq).2.2
    have HQ0 : Hid (Quiet0 w W0) := by rw [hW0]; exact Quiet0.alloc _ _
    change Code.wp _ _ _ _ (w.alloc (.cells #[.int .i64 k, .int .i64 n, .slice o len cap] 63))
    rw [← hW0]
    clear hW0
    generalize w.heap.size = nb at *
    go_loopw [1, 7] (fun s t wr => ∃ (i : Nat) (x : Int), t = .int .i64 i ∧ s = .int .i64 x ∧ i ≤ len ∧ -1 ≤ x ∧ x ≤ 100000 ∧ res = Fo.room D x (ps.drop i) ∧ Quiet0 W0 wr) (fun _ t _ => len - (intOf t).toNat)
    case atStart => exact ⟨0, m - 1, rfl, rfl, Nat.zero_le _, by omega, by omega, by rw [Fo.drop_zero]; exact HRES.out, Quiet0.refl _⟩
    case round =>
      obtain ⟨i, x, rfl, rfl, hi, hx0, hx1, hr, hq⟩ := hrel
      have HR := Lib.hid hr
      have HQ := Lib.hid hq
      have c2 := HB.out wr hq
      clear hr hq
      by_cases hlt : i < len
      · have hlt' : (i : Int) < len := by omega
        by_cases hx : 0 ≤ x
        · obtain ⟨b, off, k', n', qs, o', len', cap', rfl, hd, hg, e0, e1, e2, hs'⟩ := (HS.out.stay (HQ0.out.trans HQ.out)).nth hlt
          have HD := Lib.hid hd
          have HC := Lib.hid (IH.out i k' n' qs hg wr o' len' cap' D x ((d : Int) - 1) (by have := HDD.out; omega) hs' hx hx1 hD1)
          obtain ⟨y, hy⟩ : ∃ y, y = if D = 0 then -1 else Fo.room (D - 1) (x - 1) qs := ⟨_, rfl⟩
          have hyb : -1 ≤ y ∧ y ≤ 100000 := by
            rw [hy]; split
            · omega
            · by_cases h1 : 0 ≤ x - 1
              · have := Fo.room_le qs (D - 1) (x - 1) h1; omega
              · rw [Fo.room_neg _ _ _ (by omega)]; omega
          have HY : Hid (res = Fo.room D y (ps.drop (i + 1))) := by
            show _ = _
            rw [HR.out, hd, hy]
            cases D with
            | zero => conv => lhs; unfold Fo.room
                      rw [if_neg (by omega)]; rfl
            | succ E => conv => lhs; unfold Fo.room
                        rw [if_neg (by omega), if_neg (by omega)]; rfl
          rw [← hy] at HC
          unfold tyv at HC
          clear hd hg hs' hy
          go_wp2_with fail
          refine HC.out.mono ?_; rintro e w1 ⟨rfl, hq1⟩
          have HQ1 := Lib.hid (HQ.out.trans hq1)
          clear hq1
          go_wp2_with fail
          go_roundw
          case rel => exact ⟨i + 1, y, by go_num, rfl, by omega, hyb.1, hyb.2, HY.out, HQ1.out⟩
          case measure => simp [intOf]; omega
        · have hx' : x < 0 := by omega
          have HY : Hid (res = x) := by show _ = _; rw [HR.out]; exact Fo.room_neg _ _ _ hx'
          go_wp2_with fail
          go_ret
          exact ⟨by rw [HY.out]; rfl, HQ0.out.trans HQ.out⟩
      · have hlt' : ¬ (i : Int) < len := by omega
        have HY : Hid (res = x) := by
          show _ = _
          rw [HR.out, Fo.drop_end ps i (by have := HL.out; omega)]
          unfold Fo.room; rfl
        go_wp2_with fail
        go_ret
        exact ⟨by rw [HY.out]; rfl, HQ0.out.trans HQ.out⟩
/-- Great: is there more than is asked of? -/
def greatF (ps : Fo) : Bool := decide (Fo.room 39 299 ps < 0)
theorem great_size {ps : Fo} (h : greatF ps = false) : ps.size + 1 ≤ 300 := by
  unfold greatF at h
  have h0 : 0 ≤ Fo.room 39 299 ps := by simpa using h
  have := Fo.room_size ps 39 299 h0
  omega
set_option maxHeartbeats 1000000 in
theorem great_any (k n : Int) (ps : Fo) (w : World) (o : Option Addr) (len cap : Nat) (hs : Slc w o len ps) :
    Calls Tryd.prog 32 #[tyv k n o len cap] w fun e w' => e = .returned (.bool (greatF ps)) ∧ Quiet0 w w' := by
  have HC := Lib.hid (fun (W : World) (hq : Quiet0 w W) => room_any k n ps W o len cap 40 300 40 rfl (hs.stay hq) (by omega) (by omega) (by omega))
  unfold greatF
  rw [if_neg (by omega), show (40 : Nat) - 1 = 39 from rfl, show (300 : Int) - 1 = 299 from rfl] at HC
  generalize Fo.room 39 299 ps = r at *
  unfold tyv at *
  go_enter Tryd.func32, Tryd.ntmps32
  go_wp2_with fail
  refine (HC.out _ (Quiet0.alloc _ _)).mono ?_; rintro e w1 ⟨rfl, hq⟩
  go_wp2_with fail
  go_ret
  exact ⟨rfl, (Quiet0.alloc _ _).trans hq⟩
end Go.Proofs.YtdlcakmjihfgfaaDoor
