/-
  Texts laid together (TyRef, TySame, TyRight, TyRight2, TyChange, TyArrow, Blk): laws and walks, with their conditions in their statements.
-/
import Derived.StillTailTactics
import Derived.BigQuiet
import Derived.Shelf.Abstract
import Derived.Handy
import Derived.Deep.RegionHeld3
import Derived.Deep.DeepCutAuto
import Derived.Deep.AppendLies
import Derived.Test.YtnfodiedalhlhaaDoorNA2
section
namespace Go.Proofs.YtnfodiedalhlhaaDoor
open Go.RowKit
def IntsAt (w : World) (o : Option Addr) (l : List Int) : Prop := ∀ i x, l[i]? = some x → ∃ b off, o = some ⟨b, off, none⟩ ∧ w.cell? ⟨b, off + i, none⟩ = some (.int .i64 x)
theorem IntsAt.stay {w w' : World} {o : Option Addr} {l : List Int} (h : IntsAt w o l) (hq : Quiet0 w w') : IntsAt w' o l := by
  intro i x hi
  obtain ⟨b, off, ho, hc⟩ := h i x hi
  exact ⟨b, off, ho, hq.at hc⟩
theorem drop_some {α : Type} {l : List α} {k : Nat} {t : α} (h : l[k]? = some t) : l.drop k = t :: l.drop (k + 1) := by
  obtain ⟨hl, rfl⟩ := List.getElem?_eq_some_iff.1 h
  exact List.drop_eq_getElem_cons hl
set_option maxHeartbeats 1000000 in
theorem refIn_any (o : Option Addr) (len cap : Nat) (l : List Int) (v : Int) (w : World) (h : IntsAt w o l) (hl : len = l.length) (hb : len ≤ 1000000) :
    Calls Tryd.prog 104 #[.slice o len cap, .int .i64 v] w fun e w' => e = .returned (.bool (inB l v)) ∧ w = w' := by
  have H := Lib.hid h
  have HL := Lib.hid hl
  clear h hl
  go_enter Tryd.func104, Tryd.ntmps104
  go_wp2_with fail
  go_loop [5] (fun t => ∃ i : Nat, t = .int .i64 i ∧ i ≤ len ∧ inB l v = inB (l.drop i) v) (fun t => len - (intOf t).toNat)
  case atStart => exact ⟨0, rfl, Nat.zero_le _, rfl⟩
  case round =>
    obtain ⟨i, rfl, hi, hc⟩ := hrel
    have HC := Lib.hid hc
    clear hc
    by_cases hlt : i < len
    · have hlt' : (i : Int) < len := by omega
      obtain ⟨x, hx⟩ : ∃ x, l[i]? = some x := ⟨_, List.getElem?_eq_getElem (by have := HL.out; omega)⟩
      obtain ⟨b, off, rfl, c⟩ := H.out i x hx
      have HD := Lib.hid (drop_some hx)
      clear hx
      cases hxv : (x == v)
      · have HX : Hid ((v == x) = false) := by
          show _ = _
          rw [beq_eq_false_iff_ne] at hxv ⊢; exact fun h => hxv h.symm
        go_wp2_with fail
        go_round
        case rel => exact ⟨i + 1, by go_num, by omega, by rw [HC.out, HD.out, inB_cons, HX.out]; rfl⟩
        case measure => simp [intOf]; omega
      · have HX : Hid (v = x) := by show _ = _; exact (beq_iff_eq.1 hxv).symm
        go_wp2_with fail
        go_ret
        exact ⟨by rw [HC.out, HD.out, inB_cons, HX.out]; simp, rfl⟩
    · have hlt' : ¬ (i : Int) < len := by omega
      go_wp2_with fail
      go_ret
      exact ⟨by rw [HC.out, List.drop_eq_nil_of_le (by have := HL.out; omega)]; rfl, rfl⟩
def LRoom (k n : Int) (ps : Fo) : Prop := ∀ (w : World) (o : Option Addr) (len cap : Nat) (d : Nat) (m : Int) (di : Int), di = d → Slc w o len ps → 0 ≤ m → m ≤ 100000 → d ≤ 100000 →
  Calls Tryd.prog 103 #[tyv k n o len cap, .int .i64 m, .int .i64 di] w fun e w' => e = .returned (.int .i64 (if d = 0 then -1 else Fo.room (d - 1) (m - 1) ps)) ∧ Quiet0 w w'
set_option maxHeartbeats 2000000 in
theorem room_any (k n : Int) (ps : Fo) : LRoom k n ps := by
  refine Fo.ind' (T := LRoom) ?_ k n ps
  intro k n ps ih w o len cap d m di ed hs hm0 hm1 hd1
  subst ed
  have HS := Lib.hid hs
  have IH := Lib.hid ih
  have HL := Lib.hid hs.1
  have hmx := hs.2.1
  unfold maxLen at hmx
  clear hs ih
  by_cases hd0 : d = 0
  · subst hd0
    unfold tyv
    go_enter Tryd.func103, Tryd.ntmps103
    go_wp2_with fail
    go_ret
    exact ⟨rfl, Quiet0.alloc _ _⟩
  · obtain ⟨D, hD⟩ : ∃ D, D = d - 1 := ⟨_, rfl⟩
    have hd0' : ((d : Int) == 0) = false := by simp; omega
    have hdD : d = D + 1 := by omega
    obtain ⟨res, hres⟩ : ∃ res, res = Fo.room D (m - 1) ps := ⟨_, rfl⟩
    have HRES := Lib.hid hres
    have HF : Hid ((if d = 0 then -1 else Fo.room (d - 1) (m - 1) ps) = res) := by show _ = _; rw [if_neg (by omega), ← hD, hres]
    rw [HF.out]
    have HDD := Lib.hid hdD
    have hD1 : D ≤ 100000 := by omega
    have hd1' : 1 ≤ d := by omega
    clear hres hd0 hD hdD
    unfold tyv
    go_enter Tryd.func103, Tryd.ntmps103
    go_wp2_with fail
    obtain ⟨W0, hW0⟩ : ∃ W0, W0 = w.alloc (.cells #[.int .i64 k, .int .i64 n, .slice o len cap] 25) := ⟨_, rfl⟩
    have HB0 : Hid (∀ W, Quiet0 W0 W → W.cell? ⟨w.heap.size, 0, none⟩ = some (.int .i64 k)) := by
      intro W hq; rw [hW0] at hq; exact (box_cells w k n o len cap _ W hq).1
    have HB1 : Hid (∀ W, Quiet0 W0 W → W.cell? ⟨w.heap.size, 1, none⟩ = some (.int .i64 n)) := by
      intro W hq; rw [hW0] at hq; exact (box_cells w k n o len cap _ W hq).2.1
    have HB : Hid (∀ W, Quiet0 W0 W → W.cell? ⟨w.heap.size, 2, none⟩ = some (.slice o len cap)) := by
      intro W hq; rw [hW0] at hq; exact (box_cells w k n o len cap _ W hq).2.2
    have HQ0 : Hid (Quiet0 w W0) := by rw [hW0]; exact Quiet0.alloc _ _
    change Code.wp _ _ _ _ (w.alloc (.cells #[.int .i64 k, .int .i64 n, .slice o len cap] 25))
    rw [← hW0]
    clear hW0
    generalize w.heap.size = nb at *
    go_loopw [1, 7] (fun s t wr => ∃ (i : Nat) (x : Int), t = .int .i64 i ∧ s = .int .i64 x ∧ i ≤ len ∧ -1 ≤ x ∧ x ≤ 100000 ∧ res = Fo.room D x (ps.drop i) ∧ Quiet0 W0 wr) (fun _ t _ => len - (intOf t).toNat)
    case atStart => exact ⟨0, m - 1, rfl, rfl, Nat.zero_le _, by omega, by omega, by rw [Fo.drop_zero]; exact HRES.out, Quiet0.refl _⟩
    case round =>
      obtain ⟨i, x, rfl, rfl, hi, hx0, hx1, hr, hq⟩ := hrel
      have HR := Lib.hid hr
      have HQ := Lib.hid hq
      have c2 := HB.out wr hq
      clear hr hq
      by_cases hlt : i < len
      · have hlt' : (i : Int) < len := by omega
        by_cases hx : 0 ≤ x
        · obtain ⟨b, off, k', n', qs, o', len', cap', rfl, hd, hg, e0, e1, e2, hs'⟩ := (HS.out.stay (HQ0.out.trans HQ.out)).nth hlt
          have HD := Lib.hid hd
          have HC := Lib.hid (IH.out i k' n' qs hg wr o' len' cap' D x ((d : Int) - 1) (by have := HDD.out; omega) hs' hx hx1 hD1)
          obtain ⟨y, hy⟩ : ∃ y, y = if D = 0 then -1 else Fo.room (D - 1) (x - 1) qs := ⟨_, rfl⟩
          have hyb : -1 ≤ y ∧ y ≤ 100000 := by
            rw [hy]; split
            · omega
            · by_cases h1 : 0 ≤ x - 1
              · have := Fo.room_le qs (D - 1) (x - 1) h1; omega
              · rw [Fo.room_neg _ _ _ (by omega)]; omega
          have HY : Hid (res = Fo.room D y (ps.drop (i + 1))) := by
            show _ = _
            rw [HR.out, hd, hy]
            cases D with
            | zero => conv => lhs; unfold Fo.room
                      rw [if_neg (by omega)]; rfl
            | succ E => conv => lhs; unfold Fo.room
                        rw [if_neg (by omega), if_neg (by omega)]; rfl
          rw [← hy] at HC
          unfold tyv at HC
          clear hd hg hs' hy
          go_wp2_with fail
          refine HC.out.mono ?_; rintro e w1 ⟨rfl, hq1⟩
          have HQ1 := Lib.hid (HQ.out.trans hq1)
          clear hq1
          go_wp2_with fail
          go_roundw
          case rel => exact ⟨i + 1, y, by go_num, rfl, by omega, hyb.1, hyb.2, HY.out, HQ1.out⟩
          case measure => simp [intOf]; omega
        · have hx' : x < 0 := by omega
          have HY : Hid (res = x) := by show _ = _; rw [HR.out]; exact Fo.room_neg _ _ _ hx'
          go_wp2_with fail
          go_ret
          exact ⟨by rw [HY.out]; rfl, HQ0.out.trans HQ.out⟩
      · have hlt' : ¬ (i : Int) < len := by omega
        have HY : Hid (res = x) := by
          show _ = _
          rw [HR.out, Fo.drop_end ps i (by have := HL.out; omega)]
          unfold Fo.room; rfl
        go_wp2_with fail
        go_ret
        exact ⟨by rw [HY.out]; rfl, HQ0.out.trans HQ.out⟩
def greatF (ps : Fo) : Bool := decide (Fo.room 39 299 ps < 0)
theorem great_size {ps : Fo} (h : greatF ps = false) : ps.size + 1 ≤ 300 := by
  unfold greatF at h
  have h0 : 0 ≤ Fo.room 39 299 ps := by simpa using h
  have := Fo.room_size ps 39 299 h0
  omega
set_option maxHeartbeats 1000000 in
theorem great_any (k n : Int) (ps : Fo) (w : World) (o : Option Addr) (len cap : Nat) (hs : Slc w o len ps) :
    Calls Tryd.prog 74 #[tyv k n o len cap] w fun e w' => e = .returned (.bool (greatF ps)) ∧ Quiet0 w w' := by
  have HC := Lib.hid (fun (W : World) (hq : Quiet0 w W) => room_any k n ps W o len cap 40 300 40 rfl (hs.stay hq) (by omega) (by omega) (by omega))
  unfold greatF
  rw [if_neg (by omega), show (40 : Nat) - 1 = 39 from rfl, show (300 : Int) - 1 = 299 from rfl] at HC
  generalize Fo.room 39 299 ps = r at *
  unfold tyv at *
  go_enter Tryd.func74, Tryd.ntmps74
  go_wp2_with fail
  refine (HC.out _ (Quiet0.alloc _ _)).mono ?_; rintro e w1 ⟨rfl, hq⟩
  go_wp2_with fail
  go_ret
  exact ⟨rfl, (Quiet0.alloc _ _).trans hq⟩
end Go.Proofs.YtnfodiedalhlhaaDoor
end
section
namespace Go.Proofs.YtnfodiedalhlhaaDoor
open Go.RowKit
def sameT (k n : Int) (ps : Fo) (k' n' : Int) (ps' : Fo) : Bool := (k == k') && (n == n') && ps.same ps'
theorem same_cons (k n : Int) (ps r : Fo) (k' n' : Int) (ps' r' : Fo) : (Fo.cons k n ps r).same (Fo.cons k' n' ps' r') = (sameT k n ps k' n' ps' && r.same r') := by simp [Fo.same, sameT]
def RSame (k n : Int) (ps : Fo) : Prop := ∀ (k' n' : Int) (ps' : Fo) (w : World) (o : Option Addr) (len cap : Nat) (o' : Option Addr) (len' cap' : Nat), Slc w o len ps → Slc w o' len' ps' →
  Calls Tryd.prog 48 #[tyv k n o len cap, tyv k' n' o' len' cap'] w fun e w' => e = .returned (.bool (sameT k n ps k' n' ps')) ∧ Quiet0 w w'
theorem box_cells2 (w : World) (k n : Int) (o : Option Addr) (len cap : Nat) (k' n' : Int) (o' : Option Addr) (len' cap' : Nat) (t : TypeId) (W : World) (hW : Quiet0 ((w.alloc (.cells #[.int .i64 k, .int .i64 n, .slice o len cap] t)).alloc (.cells #[.int .i64 k', .int .i64 n', .slice o' len' cap'] t)) W) :
    (W.cell? ⟨w.heap.size, 0, none⟩ = some (.int .i64 k) ∧ W.cell? ⟨w.heap.size, 1, none⟩ = some (.int .i64 n) ∧ W.cell? ⟨w.heap.size, 2, none⟩ = some (.slice o len cap)) ∧
    (W.cell? ⟨w.heap.size + 1, 0, none⟩ = some (.int .i64 k') ∧ W.cell? ⟨w.heap.size + 1, 1, none⟩ = some (.int .i64 n') ∧ W.cell? ⟨w.heap.size + 1, 2, none⟩ = some (.slice o' len' cap')) := by
  refine ⟨box_cells w k n o len cap t W ((Quiet0.alloc _ _).trans hW), ?_⟩
  have h := box_cells (w.alloc (.cells #[.int .i64 k, .int .i64 n, .slice o len cap] t)) k' n' o' len' cap' t W hW
  have e : (w.alloc (.cells #[.int .i64 k, .int .i64 n, .slice o len cap] t)).heap.size = w.heap.size + 1 := by simp
  rw [e] at h
  exact h
set_option maxRecDepth 100000 in
set_option maxHeartbeats 2000000 in
theorem refSame_any (k n : Int) (ps : Fo) : RSame k n ps := by
  refine Fo.ind' (T := RSame) ?_ k n ps
  intro k n ps ih k' n' ps' w o len cap o' len' cap' hs hs'
  have HS := Lib.hid hs
  have HS' := Lib.hid hs'
  have IH := Lib.hid ih
  have HL := Lib.hid hs.1
  have HL' := Lib.hid hs'.1
  have hmx := hs.2.1
  unfold maxLen at hmx
  clear hs hs' ih
  obtain ⟨res, hres⟩ : ∃ res, res = sameT k n ps k' n' ps' := ⟨_, rfl⟩
  have HRES := Lib.hid hres
  rw [← hres]
  clear hres
  by_cases hk : k = k'
  · by_cases hn : n = n'
    · by_cases hlen : len = len'
      · have HR2 : Hid (res = ps.same ps') := by show _ = _; rw [HRES.out]; simp [sameT, hk, hn]
        subst hk hn hlen
        have b1 : (k != k) = false := by simp
        have b2 : (n != n) = false := by simp
        have b3 : ((len : Int) != (len : Int)) = false := by simp
        unfold tyv
        go_enter Tryd.func48, Tryd.ntmps48
        go_wp2_with fail
        obtain ⟨W0, hW0⟩ : ∃ W0, W0 = (w.alloc (.cells #[.int .i64 k, .int .i64 n, .slice o len cap] 25)).alloc (.cells #[.int .i64 k, .int .i64 n, .slice o' len cap'] 25) := ⟨_, rfl⟩
        have HBB : Hid (∀ W, Quiet0 W0 W → W.cell? ⟨w.heap.size, 2, none⟩ = some (.slice o len cap) ∧ W.cell? ⟨w.heap.size + 1, 2, none⟩ = some (.slice o' len cap')) := by
          intro W hq; rw [hW0] at hq
          have := box_cells2 w k n o len cap k n o' len cap' _ W hq
          exact ⟨this.1.2.2, this.2.2.2⟩
        have HQ0 : Hid (Quiet0 w W0) := by rw [hW0]; exact (Quiet0.alloc _ _).trans (Quiet0.alloc _ _)
        change Code.wp _ _ _ _ ((w.alloc (.cells #[.int .i64 k, .int .i64 n, .slice o len cap] 25)).alloc (.cells #[.int .i64 k, .int .i64 n, .slice o' len cap'] 25))
        rw [← hW0]
        clear hW0
        generalize w.heap.size = nb at *
        go_loopw [5] (fun t wr => ∃ (i : Nat), t = .int .i64 i ∧ i ≤ len ∧ res = (ps.drop i).same (ps'.drop i) ∧ Quiet0 W0 wr) (fun t _ => len - (intOf t).toNat)
        case atStart => exact ⟨0, rfl, Nat.zero_le _, by rw [Fo.drop_zero, Fo.drop_zero]; exact HR2.out, Quiet0.refl _⟩
        case round =>
          obtain ⟨i, rfl, hi, hr, hq⟩ := hrel
          have HR := Lib.hid hr
          have HQ := Lib.hid hq
          obtain ⟨c1, c2⟩ := HBB.out wr hq
          clear hr hq
          by_cases hlt : i < len
          · have hlt' : (i : Int) < len := by omega
            obtain ⟨b, off, k1, n1, qs1, o1, len1, cap1, rfl, hd1, hg1, e0, e1, e2, hs1⟩ := (HS.out.stay (HQ0.out.trans HQ.out)).nth hlt
            obtain ⟨b2, off2, k2, n2, qs2, o2, len2, cap2, rfl, hd2, hg2, f0, f1, f2, hs2⟩ := (HS'.out.stay (HQ0.out.trans HQ.out)).nth hlt
            have HC := Lib.hid (fun (W : World) (hq : Quiet0 wr W) => IH.out i k1 n1 qs1 hg1 k2 n2 qs2 W o1 len1 cap1 o2 len2 cap2 (hs1.stay hq) (hs2.stay hq))
            have HN : Hid (res = (sameT k1 n1 qs1 k2 n2 qs2 && (ps.drop (i + 1)).same (ps'.drop (i + 1)))) := by
              show _ = _
              rw [HR.out, hd1, hd2, same_cons]
            unfold tyv at HC
            clear hd1 hg1 hs1 hd2 hg2 hs2
            cases hb : sameT k1 n1 qs1 k2 n2 qs2
            all_goals
              have HBV := Lib.hid hb
              clear hb
              go_wp2_with fail
              refine wp_region_still_tail 10 (by kernel_rfl) (by kernel_rfl) ?_
              simp only [List.take_succ_cons, List.take_zero, List.drop_succ_cons, List.drop_zero]
              change wpStill _ _ (World.drew wr) _ _ _
              repeat still_step
              refine wpStill_nil ?_
              change wpList _ _ _ _ _ (World.drew wr)
              go_wp2_with fail
              refine (HC.out _ (Quiet0.drew _)).mono ?_; rintro e w1 ⟨rfl, hq1⟩
              rw [HBV.out]
              have HQ1 := Lib.hid ((HQ.out.trans (Quiet0.drew _)).trans hq1)
              clear hq1
              go_wp2_with fail
            · go_ret
              exact ⟨by rw [HN.out, HBV.out]; rfl, HQ0.out.trans HQ1.out⟩
            · go_roundw
              case rel => exact ⟨i + 1, by go_num, by omega, by rw [HN.out, HBV.out]; rfl, HQ1.out⟩
              case measure => simp [intOf]; omega
          · have hlt' : ¬ (i : Int) < len := by omega
            have HY : Hid (res = true) := by
              show _ = _
              rw [HR.out, Fo.drop_end ps i (by have := HL.out; omega), Fo.drop_end ps' i (by have := HL'.out; omega)]; rfl
            go_wp2_with fail
            go_ret
            exact ⟨by rw [HY.out]; rfl, HQ0.out.trans HQ.out⟩
      · have HF : Hid (res = false) := by
          show _ = _
          rw [HRES.out]
          have : ps.same ps' = false := by
            cases h : ps.same ps'
            · rfl
            · exact absurd (Fo.same_length _ _ h) (by have := HL.out; have := HL'.out; omega)
          simp [sameT, this]
        subst hk hn
        have b1 : (k != k) = false := by simp
        have b2 : (n != n) = false := by simp
        have b3 : ((len : Int) != (len' : Int)) = true := by simp; omega
        unfold tyv
        go_enter Tryd.func48, Tryd.ntmps48
        go_wp2_with fail
        go_ret
        exact ⟨by rw [HF.out]; rfl, (Quiet0.alloc _ _).trans (Quiet0.alloc _ _)⟩
    · have HF : Hid (res = false) := by show _ = _; rw [HRES.out]; simp [sameT, hn]
      subst hk
      have b1 : (k != k) = false := by simp
      have b2 : (n != n') = true := by simpa using hn
      clear hn
      unfold tyv
      go_enter Tryd.func48, Tryd.ntmps48
      go_wp2_with fail
      go_ret
      exact ⟨by rw [HF.out]; rfl, (Quiet0.alloc _ _).trans (Quiet0.alloc _ _)⟩
  · have HF : Hid (res = false) := by show _ = _; rw [HRES.out]; simp [sameT, hk]
    have b1 : (k != k') = true := by simpa using hk
    clear hk
    unfold tyv
    go_enter Tryd.func48, Tryd.ntmps48
    go_wp2_with fail
    go_ret
    exact ⟨by rw [HF.out]; rfl, (Quiet0.alloc _ _).trans (Quiet0.alloc _ _)⟩
end Go.Proofs.YtnfodiedalhlhaaDoor
end
section
namespace Go.Proofs.YtnfodiedalhlhaaDoor
open Go.RowKit
def rightT (k n : Int) (ps : Fo) : Bool := Fo.plain k n ps.length && ps.right
theorem right_cons (k n : Int) (ps r : Fo) : (Fo.cons k n ps r).right = (rightT k n ps && r.right) := by simp [Fo.right, rightT]
def idxF (p : Int → Int → Fo → Bool) : Fo → Nat → Int
  | .nil, _ => -1
  | .cons k n ps r, i => if p k n ps then (i : Int) else idxF p r (i + 1)
def anyF (p : Int → Int → Fo → Bool) : Fo → Bool
  | .nil => false
  | .cons k n ps r => p k n ps || anyF p r
theorem idx_any (p : Int → Int → Fo → Bool) : ∀ (f : Fo) (i : Nat), decide (0 ≤ idxF p f i) = anyF p f
  | .nil, i => by simp [idxF, anyF]
  | .cons k n ps r, i => by
    unfold idxF anyF
    cases h : p k n ps
    · simp only [Bool.false_eq_true, if_false, Bool.false_or]; exact idx_any p r (i + 1)
    · simp
theorem any_not_right : ∀ f : Fo, anyF (fun k n ps => !rightT k n ps) f = !f.right
  | .nil => rfl
  | .cons k n ps r => by unfold anyF; rw [right_cons, any_not_right r, Bool.not_and]
theorem known_any (n : Int) (w : World) : Calls Tryd.prog 124 #[.int .i64 n] w fun e w' => e = .returned (.bool (decide (0 ≤ n) && decide (n < 1073741824))) ∧ w = w' := by
  by_cases h : 0 ≤ n
  · go_enter Tryd.func124, Tryd.ntmps124
    go_wp2_with fail
    go_ret
    exact ⟨by first | (simp [h]; done) | (simp; omega), rfl⟩
  · go_enter Tryd.func124, Tryd.ntmps124
    go_wp2_with fail
    go_ret
    exact ⟨by first | (simp; done) | (simp; omega), rfl⟩
set_option maxHeartbeats 2000000 in
theorem plain_any (k n : Int) (len : Nat) (o : Option Addr) (cap : Nat) (w : World) : Calls Tryd.prog 116 #[tyv k n o len cap] w fun e w' => e = .returned (.bool (Fo.plain k n len)) ∧ Quiet0 w w' := by
  obtain ⟨res, hres⟩ : ∃ res, res = Fo.plain k n len := ⟨_, rfl⟩
  have HR := Lib.hid hres
  rw [← hres]
  clear hres
  unfold tyv
  by_cases k1 : k = 1
  · subst k1
    cases hkn : (decide (0 ≤ n) && decide (n < 1073741824))
    · have HK := Lib.hid (known_any n)
      rw [hkn] at HK
      have HF : Hid (res = false) := by show _ = _; rw [HR.out]; unfold Fo.plain; simp only [beq_self_eq_true, if_true]; rw [hkn]; rfl
      clear hkn
      go_enter Tryd.func116, Tryd.ntmps116
      go_wp2_with fail
      refine (HK.out _).mono ?_; rintro e w1 ⟨rfl, rfl⟩
      go_wp2_with fail
      go_ret
      exact ⟨by rw [HF.out]; rfl, Quiet0.alloc _ _⟩
    · have HK := Lib.hid (known_any n)
      rw [hkn] at HK
      have HF : Hid (res = ((len : Int) == 0)) := by
        show _ = _
        rw [HR.out]; unfold Fo.plain; simp only [beq_self_eq_true, if_true]; rw [hkn, Bool.eq_iff_iff]; simp
      clear hkn
      go_enter Tryd.func116, Tryd.ntmps116
      go_wp2_with fail
      refine (HK.out _).mono ?_; rintro e w1 ⟨rfl, rfl⟩
      go_wp2_with fail
      all_goals
        go_ret
        exact ⟨by rw [HF.out]; first | rfl | simp_all, Quiet0.alloc _ _⟩
  have b1 : (k == 1) = false := by simpa using k1
  by_cases hn : n = 0
  · subst hn
    by_cases k2 : k = 2
    · subst k2
      have HF : Hid (res = ((len : Int) == 0)) := by show _ = _; rw [HR.out, Bool.eq_iff_iff]; simp [Fo.plain]
      go_enter Tryd.func116, Tryd.ntmps116
      go_wp2_with fail
      all_goals
        go_ret
        exact ⟨by rw [HF.out]; first | rfl | simp_all, Quiet0.alloc _ _⟩
    have b2 : (k == 2) = false := by simpa using k2
    by_cases k3 : k = 3
    · subst k3
      have HF : Hid (res = ((len : Int) == 0)) := by show _ = _; rw [HR.out, Bool.eq_iff_iff]; simp [Fo.plain]
      go_enter Tryd.func116, Tryd.ntmps116
      go_wp2_with fail
      all_goals
        go_ret
        exact ⟨by rw [HF.out]; first | rfl | simp_all, Quiet0.alloc _ _⟩
    have b3 : (k == 3) = false := by simpa using k3
    by_cases k4 : k = 4
    · subst k4
      have HF : Hid (res = ((len : Int) == 2)) := by show _ = _; rw [HR.out, Bool.eq_iff_iff]; simp [Fo.plain]; omega
      go_enter Tryd.func116, Tryd.ntmps116
      go_wp2_with fail
      all_goals
        go_ret
        exact ⟨by rw [HF.out]; first | rfl | simp_all, Quiet0.alloc _ _⟩
    have b4 : (k == 4) = false := by simpa using k4
    by_cases k5 : k = 5
    · subst k5
      by_cases h2 : 2 ≤ len
      · have h2' : (2 : Int) ≤ (len : Int) := by omega
        by_cases h8 : len ≤ 8
        · have h8' : (len : Int) ≤ 8 := by omega
          have HF : Hid (res = true) := by show _ = _; rw [HR.out]; simp [Fo.plain, h2, h8]
          go_enter Tryd.func116, Tryd.ntmps116
          go_wp2_with fail
          go_ret
          exact ⟨by rw [HF.out]; rfl, Quiet0.alloc _ _⟩
        · have h8' : ¬ (len : Int) ≤ 8 := by omega
          have HF : Hid (res = false) := by show _ = _; rw [HR.out]; simp [Fo.plain, h8]
          go_enter Tryd.func116, Tryd.ntmps116
          go_wp2_with fail
          go_ret
          exact ⟨by rw [HF.out]; rfl, Quiet0.alloc _ _⟩
      · have h2' : ¬ (2 : Int) ≤ (len : Int) := by omega
        have HF : Hid (res = false) := by show _ = _; rw [HR.out]; simp [Fo.plain, h2]
        go_enter Tryd.func116, Tryd.ntmps116
        go_wp2_with fail
        go_ret
        exact ⟨by rw [HF.out]; rfl, Quiet0.alloc _ _⟩
    have b5 : (k == 5) = false := by simpa using k5
    have HF : Hid (res = false) := by show _ = _; rw [HR.out]; unfold Fo.plain; simp only [b1, b2, b3, b4, b5]; rfl
    clear k1 k2 k3 k4 k5
    go_enter Tryd.func116, Tryd.ntmps116
    go_wp2_with fail
    go_ret
    exact ⟨by rw [HF.out]; rfl, Quiet0.alloc _ _⟩
  · have HF : Hid (res = false) := by
      show _ = _
      rw [HR.out]
      have hn' : (n == 0) = false := by simpa using hn
      unfold Fo.plain
      simp only [b1, hn', Bool.false_and]
      repeat' split
      all_goals first | rfl | simp_all
    have hn' : (n == 0) = false := by simpa using hn
    clear k1 hn
    go_enter Tryd.func116, Tryd.ntmps116
    go_wp2_with fail
    all_goals
      go_ret
      exact ⟨by rw [HF.out]; rfl, Quiet0.alloc _ _⟩
def PredTy (g : Nat) (lb : Array Value) (w0 : World) (f : Fo) (p : Int → Int → Fo → Bool) : Prop := ∀ i k n ps, f.get i = some (k, n, ps) → ∀ (W : World) (o : Option Addr) (len cap : Nat), Quiet0 w0 W → Slc W o len ps →
  Calls Tryd.prog g (#[tyv k n o len cap] ++ lb) W fun e W' => e = .returned (.bool (p k n ps)) ∧ Quiet0 W W'
set_option maxHeartbeats 1000000 in
theorem indexFunc_any (g : Nat) (lb : Array Value) (p : Int → Int → Fo → Bool) (eg : ∀ args w, (callFunc g args).run Tryd.prog w = .ok (.enter g args) w) (f : Fo) (o : Option Addr) (len cap : Nat) (w : World) (hs : Slc w o len f) (hp : PredTy g lb w f p) :
    Calls Tryd.prog 125 #[.slice o len cap, .func (.func g) #[] lb] w fun e w' => e = .returned (.int .i64 (idxF p f 0)) ∧ Quiet0 w w' := by
  have HS := Lib.hid hs
  have HP := Lib.hid hp
  have HL := Lib.hid hs.1
  have hmx := hs.2.1
  unfold maxLen at hmx
  clear hs hp
  obtain ⟨res, hres⟩ : ∃ res, res = idxF p f 0 := ⟨_, rfl⟩
  have HR := Lib.hid hres
  rw [← hres]
  clear hres
  go_enter Tryd.func125, Tryd.ntmps125
  go_wp2_with fail
  go_loopw [8] (fun t wr => ∃ i : Nat, t = .int .i64 i ∧ i ≤ len ∧ res = idxF p (f.drop i) i ∧ Quiet0 w wr) (fun t _ => len - (intOf t).toNat)
  case atStart => exact ⟨0, rfl, Nat.zero_le _, by rw [Fo.drop_zero]; exact HR.out, Quiet0.refl _⟩
  case round =>
    obtain ⟨i, rfl, hi, hr, hq⟩ := hrel
    have HRR := Lib.hid hr
    have HQ := Lib.hid hq
    clear hr hq
    by_cases hlt : i < len
    · have hlt' : (i : Int) < len := by omega
      obtain ⟨b, off, k1, n1, qs, o1, len1, cap1, rfl, hd, hg, e0, e1, e2, hs1⟩ := (HS.out.stay HQ.out).nth hlt
      have HD := Lib.hid hd
      have HC := Lib.hid (HP.out i k1 n1 qs hg wr o1 len1 cap1 HQ.out hs1)
      unfold tyv at HC
      clear hd hg hs1
      cases hb : p k1 n1 qs
      all_goals
        have HBV := Lib.hid hb
        rw [hb] at HC
        clear hb
        go_wp2_with fail
        refine HC.out.mono ?_; rintro e w1 ⟨rfl, hq1⟩
        have HQ1 := Lib.hid (HQ.out.trans hq1)
        clear hq1
        go_wp2_with fail
      · go_roundw
        case rel => exact ⟨i + 1, by go_num, by omega, by rw [HRR.out, HD.out, idxF, HBV.out]; rfl, HQ1.out⟩
        case measure => simp [intOf]; omega
      · go_ret
        exact ⟨by rw [HRR.out, HD.out, idxF, HBV.out]; rfl, HQ1.out⟩
    · have hlt' : ¬ (i : Int) < len := by omega
      go_wp2_with fail
      go_ret
      exact ⟨by rw [HRR.out, Fo.drop_end f i (by have := HL.out; omega)]; rfl, HQ.out⟩
set_option maxHeartbeats 1000000 in
theorem containsFunc_any (g : Nat) (lb : Array Value) (p : Int → Int → Fo → Bool) (eg : ∀ args w, (callFunc g args).run Tryd.prog w = .ok (.enter g args) w) (f : Fo) (o : Option Addr) (len cap : Nat) (w : World) (hs : Slc w o len f) (hp : PredTy g lb w f p) :
    Calls Tryd.prog 117 #[.slice o len cap, .func (.func g) #[] lb] w fun e w' => e = .returned (.bool (anyF p f)) ∧ Quiet0 w w' := by
  have HC := Lib.hid (indexFunc_any g lb p eg f o len cap w hs hp)
  rw [← idx_any p f 0]
  clear hs hp eg
  generalize idxF p f 0 = r at *
  go_enter Tryd.func117, Tryd.ntmps117
  go_wp2_with fail
  refine HC.out.mono ?_; rintro e w1 ⟨rfl, hq⟩
  go_wp2_with fail
  go_ret
  exact ⟨rfl, hq⟩
end Go.Proofs.YtnfodiedalhlhaaDoor
end
section
namespace Go.Proofs.YtnfodiedalhlhaaDoor
open Go.RowKit Go.Shelf
theorem eg_right : ∀ args w, (callFunc 118 args).run Tryd.prog w = .ok (.enter 118 args) w := enters_of Tryd.func118 (by kernel_rfl) rfl
def TRight (k n : Int) (ps : Fo) : Prop := ∀ (w : World) (o : Option Addr) (len cap : Nat), Slc w o len ps →
  Calls Tryd.prog 101 #[tyv k n o len cap] w fun e w' => e = .returned (.bool (rightT k n ps)) ∧ Quiet0 w w'
set_option maxHeartbeats 1000000 in
theorem not_right (k n : Int) (ps : Fo) (h : TRight k n ps) (w : World) (o : Option Addr) (len cap : Nat) (hs : Slc w o len ps) :
    Calls Tryd.prog 118 #[tyv k n o len cap] w fun e w' => e = .returned (.bool (!rightT k n ps)) ∧ Quiet0 w w' := by
  have HC := Lib.hid (fun (W : World) (hq : Quiet0 w W) => h W o len cap (hs.stay hq))
  clear h hs
  generalize rightT k n ps = r at *
  unfold tyv at *
  go_enter Tryd.func118, Tryd.ntmps118
  go_wp2_with fail
  refine (HC.out _ (Quiet0.alloc _ _)).mono ?_; rintro e w1 ⟨rfl, hq⟩
  go_wp2_with fail
  go_ret
  exact ⟨rfl, (Quiet0.alloc _ _).trans hq⟩
set_option maxHeartbeats 1000000 in
theorem right_any (k n : Int) (ps : Fo) : TRight k n ps := by
  refine Fo.ind' (T := TRight) ?_ k n ps
  intro k n ps ih w o len cap hs
  have hl := hs.1
  have HP := Lib.hid (plain_any k n len o cap)
  have HC : Hid (∀ W, Quiet0 w W → Calls Tryd.prog 117 #[.slice o len cap, .func (.func 118) #[] #[]] W fun e w' => e = .returned (.bool (!ps.right)) ∧ Quiet0 W w') := by
    intro W hq
    have := containsFunc_any 118 #[] (fun k n ps => !rightT k n ps) eg_right ps o len cap W (hs.stay hq) (fun i k1 n1 qs hg W1 o1 len1 cap1 _ hs1 => not_right k1 n1 qs (ih i k1 n1 qs hg) W1 o1 len1 cap1 hs1)
    rw [any_not_right] at this
    exact this
  have HR : Hid (rightT k n ps = (Fo.plain k n len && ps.right)) := by show _ = _; unfold rightT; rw [hl]
  rw [HR.out]
  clear hs ih hl HR
  cases hp : Fo.plain k n len
  · have HPV := Lib.hid hp
    rw [hp] at HP
    clear hp
    unfold tyv at *
    go_enter Tryd.func101, Tryd.ntmps101
    go_wp2_with fail
    refine (HP.out _).mono ?_; rintro e w1 ⟨rfl, hq⟩
    go_wp2_with fail
    go_ret
    exact ⟨rfl, (Quiet0.alloc _ _).trans hq⟩
  · have HPV := Lib.hid hp
    rw [hp] at HP
    clear hp
    generalize ps.right = r at *
    unfold tyv at *
    go_enter Tryd.func101, Tryd.ntmps101
    go_wp2_with fail
    refine (HP.out _).mono ?_; rintro e w1 ⟨rfl, hq⟩
    have HQ := Lib.hid ((Quiet0.alloc w (.cells #[.int .i64 k, .int .i64 n, .slice o len cap] 25)).trans hq)
    have c2 := (box_cells w k n o len cap 25 w1 hq).2.2
    clear hq
    go_wp2_with fail
    refine (HC.out _ HQ.out).mono ?_; rintro e w2 ⟨rfl, hq2⟩
    go_wp2_with fail
    go_ret
    exact ⟨by simp, HQ.out.trans hq2⟩
def RRight (k n : Int) (ps : Fo) : Prop := ∀ (w : World) (o : Option Addr) (len cap : Nat), Slc w o len ps →
  Calls Tryd.prog 77 #[tyv k n o len cap] w fun e w' => e = .returned (.bool (rightT k n ps)) ∧ Quiet0 w w'
theorem not_plain {k n : Int} {m : Nat} (h : Fo.plain k n m = false) : (k = 1 ∧ (n < 0 ∨ 1073741824 ≤ n ∨ 0 < m)) ∨ (k ≠ 1 ∧ n ≠ 0) ∨ (n = 0 ∧ (k = 2 ∨ k = 3) ∧ 0 < m) ∨ (n = 0 ∧ k = 4 ∧ m ≠ 2) ∨ (n = 0 ∧ k = 5 ∧ (m < 2 ∨ 8 < m)) ∨ (n = 0 ∧ (k < 1 ∨ 5 < k)) := by
  unfold Fo.plain at h
  by_cases k1 : k = 1
  · subst k1; simp at h; omega
  by_cases hn : n = 0
  · subst hn
    by_cases k2 : k = 2
    · subst k2; simp at h; omega
    by_cases k3 : k = 3
    · subst k3; simp at h; omega
    by_cases k4 : k = 4
    · subst k4; simp at h; omega
    by_cases k5 : k = 5
    · subst k5; simp at h; omega
    omega
  · omega
theorem is_plain {k n : Int} {m : Nat} (h : Fo.plain k n m = true) : (k = 1 ∧ 0 ≤ n ∧ n < 1073741824 ∧ m = 0) ∨ (n = 0 ∧ k = 2 ∧ m = 0) ∨ (n = 0 ∧ k = 3 ∧ m = 0) ∨ (n = 0 ∧ k = 4 ∧ m = 2) ∨ (n = 0 ∧ k = 5 ∧ 2 ≤ m ∧ m ≤ 8) := by
  unfold Fo.plain at h
  by_cases k1 : k = 1
  · subst k1; simp at h; omega
  by_cases k2 : k = 2
  · subst k2; simp at h; omega
  by_cases k3 : k = 3
  · subst k3; simp at h; omega
  by_cases k4 : k = 4
  · subst k4; simp at h; omega
  by_cases k5 : k = 5
  · subst k5; simp at h; omega
  · simp [k1, k2, k3, k4, k5] at h
set_option maxRecDepth 100000 in
set_option maxHeartbeats 4000000 in
theorem refRight_any (k n : Int) (ps : Fo) : RRight k n ps := by
  refine Fo.ind' (T := RRight) ?_ k n ps
  intro k n ps ih w o len cap hs
  have HS := Lib.hid hs
  have IH := Lib.hid ih
  have HL := Lib.hid hs.1
  have hmx := hs.2.1
  unfold maxLen at hmx
  have HR : Hid (rightT k n ps = (Fo.plain k n len && ps.right)) := by show _ = _; unfold rightT; rw [hs.1]
  rw [HR.out]
  clear hs ih HR
  cases hp : Fo.plain k n len
  · simp only [Bool.false_and]
    have hw := not_plain hp
    clear hp HS IH HL
    unfold tyv
    rcases hw with ⟨rfl, h | h | h⟩ | ⟨h1, h2⟩ | ⟨rfl, rfl | rfl, h⟩ | ⟨rfl, rfl, h⟩ | ⟨rfl, rfl, h | h⟩ | ⟨rfl, h | h⟩
    · go_enter Tryd.func77, Tryd.ntmps77
      go_wp2_with fail
      all_goals
        go_ret
        exact ⟨rfl, Quiet0.alloc _ _⟩
    · go_enter Tryd.func77, Tryd.ntmps77
      go_wp2_with fail
      all_goals
        go_ret
        exact ⟨rfl, Quiet0.alloc _ _⟩
    · have h' : (0 : Int) < (len : Int) := by omega
      go_enter Tryd.func77, Tryd.ntmps77
      go_wp2_with fail
      all_goals
        go_ret
        exact ⟨rfl, Quiet0.alloc _ _⟩
    · have b1 : (k == 1) = false := by simpa using h1
      have b2 : (k != 1) = true := by simpa using h1
      have b3 : (n != 0) = true := by simpa using h2
      clear h1 h2
      go_enter Tryd.func77, Tryd.ntmps77
      go_wp2_with fail
      all_goals
        go_ret
        exact ⟨rfl, Quiet0.alloc _ _⟩
    · have h' : (0 : Int) < (len : Int) := by omega
      go_enter Tryd.func77, Tryd.ntmps77
      go_wp2_with fail
      all_goals
        go_ret
        exact ⟨rfl, Quiet0.alloc _ _⟩
    · have h' : (0 : Int) < (len : Int) := by omega
      go_enter Tryd.func77, Tryd.ntmps77
      go_wp2_with fail
      all_goals
        go_ret
        exact ⟨rfl, Quiet0.alloc _ _⟩
    · have h' : ((len : Int) != 2) = true := by simp; omega
      go_enter Tryd.func77, Tryd.ntmps77
      go_wp2_with fail
      all_goals
        go_ret
        exact ⟨rfl, Quiet0.alloc _ _⟩
    · have h' : (len : Int) < 2 := by omega
      go_enter Tryd.func77, Tryd.ntmps77
      go_wp2_with fail
      all_goals
        go_ret
        exact ⟨rfl, Quiet0.alloc _ _⟩
    · have h' : (8 : Int) < (len : Int) := by omega
      have h2 : ¬ (len : Int) < 2 := by omega
      go_enter Tryd.func77, Tryd.ntmps77
      go_wp2_with fail
      all_goals
        go_ret
        exact ⟨rfl, Quiet0.alloc _ _⟩
    · have b1 : (k == 1) = false := by simp; omega
      have b1' : (k != 1) = true := by simp; omega
      have b2 : (k == 2) = false := by simp; omega
      have b3 : (k == 3) = false := by simp; omega
      have b4 : (k == 4) = false := by simp; omega
      have b5 : (k == 5) = false := by simp; omega
      go_enter Tryd.func77, Tryd.ntmps77
      go_wp2_with fail
      all_goals
        go_ret
        exact ⟨rfl, Quiet0.alloc _ _⟩
    · have b1 : (k == 1) = false := by simp; omega
      have b1' : (k != 1) = true := by simp; omega
      have b2 : (k == 2) = false := by simp; omega
      have b3 : (k == 3) = false := by simp; omega
      have b4 : (k == 4) = false := by simp; omega
      have b5 : (k == 5) = false := by simp; omega
      have h' : ¬ k < 1 := by omega
      go_enter Tryd.func77, Tryd.ntmps77
      go_wp2_with fail
      all_goals
        go_ret
        exact ⟨rfl, Quiet0.alloc _ _⟩
  · simp only [Bool.true_and]
    obtain ⟨res, hres⟩ : ∃ res, res = ps.right := ⟨_, rfl⟩
    have HRES := Lib.hid hres
    rw [← hres]
    have hw := is_plain hp
    clear hp hres
    rcases hw with ⟨rfl, h1, h2, h3⟩ | ⟨rfl, rfl, h3⟩ | ⟨rfl, rfl, h3⟩ | ⟨rfl, rfl, h3⟩ | ⟨rfl, rfl, h3, h4⟩
    · have h3' : ¬ (0 : Int) < (len : Int) := by omega
      clear h3
      unfold tyv
      obtain ⟨W0, hW0⟩ : ∃ W0, W0 = w.alloc (.cells #[.int .i64 1, .int .i64 n, .slice o len cap] 25) := ⟨_, rfl⟩
      have HB : Hid (∀ W, Quiet0 W0 W → W.cell? ⟨w.heap.size, 2, none⟩ = some (.slice o len cap)) := by
        intro W hq; rw [hW0] at hq; exact (box_cells w _ _ o len cap _ W hq).2.2
      have HQ0 : Hid (Quiet0 w W0) := by rw [hW0]; exact Quiet0.alloc _ _
      go_enter Tryd.func77, Tryd.ntmps77
      go_wp2_with fail
      change Code.wp _ _ _ _ (w.alloc (.cells #[.int .i64 1, .int .i64 n, .slice o len cap] 25))
      rw [← hW0]
      clear hW0
      generalize w.heap.size = nb at *
      go_loopw [4] (fun t wr => ∃ i : Nat, t = .int .i64 i ∧ i ≤ len ∧ res = (ps.drop i).right ∧ Quiet0 W0 wr) (fun t _ => len - (intOf t).toNat)
      case atStart => exact ⟨0, rfl, Nat.zero_le _, by rw [Fo.drop_zero]; exact HRES.out, Quiet0.refl _⟩
      case round =>
        obtain ⟨i, rfl, hi, hr, hq⟩ := hrel
        have HRR := Lib.hid hr
        have HQ := Lib.hid hq
        have c2 := HB.out wr hq
        clear hr hq
        by_cases hlt : i < len
        · exact absurd hlt (by omega)
        · have hlt' : ¬ (i : Int) < len := by omega
          go_wp2_with fail
          go_ret
          exact ⟨by rw [HRR.out, Fo.drop_end ps i (by have := HL.out; omega)]; rfl, HQ0.out.trans HQ.out⟩
    · have h3' : ¬ (0 : Int) < (len : Int) := by omega
      clear h3
      unfold tyv
      obtain ⟨W0, hW0⟩ : ∃ W0, W0 = w.alloc (.cells #[.int .i64 2, .int .i64 0, .slice o len cap] 25) := ⟨_, rfl⟩
      have HB : Hid (∀ W, Quiet0 W0 W → W.cell? ⟨w.heap.size, 2, none⟩ = some (.slice o len cap)) := by
        intro W hq; rw [hW0] at hq; exact (box_cells w _ _ o len cap _ W hq).2.2
      have HQ0 : Hid (Quiet0 w W0) := by rw [hW0]; exact Quiet0.alloc _ _
      go_enter Tryd.func77, Tryd.ntmps77
      go_wp2_with fail
      change Code.wp _ _ _ _ (w.alloc (.cells #[.int .i64 2, .int .i64 0, .slice o len cap] 25))
      rw [← hW0]
      clear hW0
      generalize w.heap.size = nb at *
      go_loopw [4] (fun t wr => ∃ i : Nat, t = .int .i64 i ∧ i ≤ len ∧ res = (ps.drop i).right ∧ Quiet0 W0 wr) (fun t _ => len - (intOf t).toNat)
      case atStart => exact ⟨0, rfl, Nat.zero_le _, by rw [Fo.drop_zero]; exact HRES.out, Quiet0.refl _⟩
      case round =>
        obtain ⟨i, rfl, hi, hr, hq⟩ := hrel
        have HRR := Lib.hid hr
        have HQ := Lib.hid hq
        have c2 := HB.out wr hq
        clear hr hq
        by_cases hlt : i < len
        · exact absurd hlt (by omega)
        · have hlt' : ¬ (i : Int) < len := by omega
          go_wp2_with fail
          go_ret
          exact ⟨by rw [HRR.out, Fo.drop_end ps i (by have := HL.out; omega)]; rfl, HQ0.out.trans HQ.out⟩
    · have h3' : ¬ (0 : Int) < (len : Int) := by omega
      clear h3
      unfold tyv
      obtain ⟨W0, hW0⟩ : ∃ W0, W0 = w.alloc (.cells #[.int .i64 3, .int .i64 0, .slice o len cap] 25) := ⟨_, rfl⟩
      have HB : Hid (∀ W, Quiet0 W0 W → W.cell? ⟨w.heap.size, 2, none⟩ = some (.slice o len cap)) := by
        intro W hq; rw [hW0] at hq; exact (box_cells w _ _ o len cap _ W hq).2.2
      have HQ0 : Hid (Quiet0 w W0) := by rw [hW0]; exact Quiet0.alloc _ _
      go_enter Tryd.func77, Tryd.ntmps77
      go_wp2_with fail
      change Code.wp _ _ _ _ (w.alloc (.cells #[.int .i64 3, .int .i64 0, .slice o len cap] 25))
      rw [← hW0]
      clear hW0
      generalize w.heap.size = nb at *
      go_loopw [4] (fun t wr => ∃ i : Nat, t = .int .i64 i ∧ i ≤ len ∧ res = (ps.drop i).right ∧ Quiet0 W0 wr) (fun t _ => len - (intOf t).toNat)
      case atStart => exact ⟨0, rfl, Nat.zero_le _, by rw [Fo.drop_zero]; exact HRES.out, Quiet0.refl _⟩
      case round =>
        obtain ⟨i, rfl, hi, hr, hq⟩ := hrel
        have HRR := Lib.hid hr
        have HQ := Lib.hid hq
        have c2 := HB.out wr hq
        clear hr hq
        by_cases hlt : i < len
        · exact absurd hlt (by omega)
        · have hlt' : ¬ (i : Int) < len := by omega
          go_wp2_with fail
          go_ret
          exact ⟨by rw [HRR.out, Fo.drop_end ps i (by have := HL.out; omega)]; rfl, HQ0.out.trans HQ.out⟩
    · have h3' : ((len : Int) != 2) = false := by simp; omega
      clear h3
      unfold tyv
      obtain ⟨W0, hW0⟩ : ∃ W0, W0 = w.alloc (.cells #[.int .i64 4, .int .i64 0, .slice o len cap] 25) := ⟨_, rfl⟩
      have HB : Hid (∀ W, Quiet0 W0 W → W.cell? ⟨w.heap.size, 2, none⟩ = some (.slice o len cap)) := by
        intro W hq; rw [hW0] at hq; exact (box_cells w _ _ o len cap _ W hq).2.2
      have HQ0 : Hid (Quiet0 w W0) := by rw [hW0]; exact Quiet0.alloc _ _
      go_enter Tryd.func77, Tryd.ntmps77
      go_wp2_with fail
      change Code.wp _ _ _ _ (w.alloc (.cells #[.int .i64 4, .int .i64 0, .slice o len cap] 25))
      rw [← hW0]
      clear hW0
      generalize w.heap.size = nb at *
      go_loopw [4] (fun t wr => ∃ i : Nat, t = .int .i64 i ∧ i ≤ len ∧ res = (ps.drop i).right ∧ Quiet0 W0 wr) (fun t _ => len - (intOf t).toNat)
      case atStart => exact ⟨0, rfl, Nat.zero_le _, by rw [Fo.drop_zero]; exact HRES.out, Quiet0.refl _⟩
      case round =>
        obtain ⟨i, rfl, hi, hr, hq⟩ := hrel
        have HRR := Lib.hid hr
        have HQ := Lib.hid hq
        have c2 := HB.out wr hq
        clear hr hq
        by_cases hlt : i < len
        · have hlt' : (i : Int) < len := by omega
          obtain ⟨b, off, k1, n1, qs, o1, len1, cap1, rfl, hd, hg, e0, e1, e2, hs1⟩ := (HS.out.stay (HQ0.out.trans HQ.out)).nth hlt
          have HD := Lib.hid hd
          have HC := Lib.hid (IH.out i k1 n1 qs hg wr o1 len1 cap1 hs1)
          unfold tyv at HC
          clear hd hg hs1
          cases hb : rightT k1 n1 qs
          all_goals
            have HBV := Lib.hid hb
            rw [hb] at HC
            clear hb
            go_wp2_with fail
            refine HC.out.mono ?_; rintro e w1 ⟨rfl, hq1⟩
            have HQ1 := Lib.hid (HQ.out.trans hq1)
            clear hq1
            go_wp2_with fail
          · go_ret
            exact ⟨by rw [HRR.out, HD.out, right_cons, HBV.out]; rfl, HQ0.out.trans HQ1.out⟩
          · go_roundw
            case rel => exact ⟨i + 1, by go_num, by omega, by rw [HRR.out, HD.out, right_cons, HBV.out]; rfl, HQ1.out⟩
            case measure => simp [intOf]; omega
        · have hlt' : ¬ (i : Int) < len := by omega
          go_wp2_with fail
          go_ret
          exact ⟨by rw [HRR.out, Fo.drop_end ps i (by have := HL.out; omega)]; rfl, HQ0.out.trans HQ.out⟩
    · have h3' : ¬ (len : Int) < 2 := by omega
      have h4' : ¬ (8 : Int) < (len : Int) := by omega
      unfold tyv
      obtain ⟨W0, hW0⟩ : ∃ W0, W0 = w.alloc (.cells #[.int .i64 5, .int .i64 0, .slice o len cap] 25) := ⟨_, rfl⟩
      have HB : Hid (∀ W, Quiet0 W0 W → W.cell? ⟨w.heap.size, 2, none⟩ = some (.slice o len cap)) := by
        intro W hq; rw [hW0] at hq; exact (box_cells w _ _ o len cap _ W hq).2.2
      have HQ0 : Hid (Quiet0 w W0) := by rw [hW0]; exact Quiet0.alloc _ _
      go_enter Tryd.func77, Tryd.ntmps77
      go_wp2_with fail
      change Code.wp _ _ _ _ (w.alloc (.cells #[.int .i64 5, .int .i64 0, .slice o len cap] 25))
      rw [← hW0]
      clear hW0
      generalize w.heap.size = nb at *
      go_loopw [4] (fun t wr => ∃ i : Nat, t = .int .i64 i ∧ i ≤ len ∧ res = (ps.drop i).right ∧ Quiet0 W0 wr) (fun t _ => len - (intOf t).toNat)
      case atStart => exact ⟨0, rfl, Nat.zero_le _, by rw [Fo.drop_zero]; exact HRES.out, Quiet0.refl _⟩
      case round =>
        obtain ⟨i, rfl, hi, hr, hq⟩ := hrel
        have HRR := Lib.hid hr
        have HQ := Lib.hid hq
        have c2 := HB.out wr hq
        clear hr hq
        by_cases hlt : i < len
        · have hlt' : (i : Int) < len := by omega
          obtain ⟨b, off, k1, n1, qs, o1, len1, cap1, rfl, hd, hg, e0, e1, e2, hs1⟩ := (HS.out.stay (HQ0.out.trans HQ.out)).nth hlt
          have HD := Lib.hid hd
          have HC := Lib.hid (IH.out i k1 n1 qs hg wr o1 len1 cap1 hs1)
          unfold tyv at HC
          clear hd hg hs1
          cases hb : rightT k1 n1 qs
          all_goals
            have HBV := Lib.hid hb
            rw [hb] at HC
            clear hb
            go_wp2_with fail
            refine HC.out.mono ?_; rintro e w1 ⟨rfl, hq1⟩
            have HQ1 := Lib.hid (HQ.out.trans hq1)
            clear hq1
            go_wp2_with fail
          · go_ret
            exact ⟨by rw [HRR.out, HD.out, right_cons, HBV.out]; rfl, HQ0.out.trans HQ1.out⟩
          · go_roundw
            case rel => exact ⟨i + 1, by go_num, by omega, by rw [HRR.out, HD.out, right_cons, HBV.out]; rfl, HQ1.out⟩
            case measure => simp [intOf]; omega
        · have hlt' : ¬ (i : Int) < len := by omega
          go_wp2_with fail
          go_ret
          exact ⟨by rw [HRR.out, Fo.drop_end ps i (by have := HL.out; omega)]; rfl, HQ0.out.trans HQ.out⟩
end Go.Proofs.YtnfodiedalhlhaaDoor
end
section
namespace Go.Proofs.YtnfodiedalhlhaaDoor
open Go.RowKit Go.Shelf
theorem elemTy : Elem Tryd.prog 23 25 (.agg #[.int .i64 0, .int .i64 0, .slice none 0 0]) 3 40 :=
  ⟨Tryd.underlying23, by kernel_rfl, by decide, by decide⟩
def DoK (g : Nat) (lb : Array Value) (w0 : World) (G : Int → Prop) (p : Int → Int) : Prop := ∀ (n : Int) (W : World), G n → Quiet0 w0 W →
  Calls Tryd.prog g (#[.int .i64 n] ++ lb) W fun e W' => e = .returned (.int .i64 (p n)) ∧ Quiet0 W W'
def newN (p : Int → Int) (k n : Int) : Int := if k == 1 then p n else n
def TChange (g : Nat) (lb : Array Value) (w0 : World) (G : Int → Prop) (p : Int → Int) (k n : Int) (ps : Fo) : Prop :=
  ∀ (w : World) (o : Option Addr) (len cap : Nat), Quiet0 w0 w → Slc w o len ps → ps.size ≤ 1000000 → G n → allF G ps →
    Calls Tryd.prog 106 #[tyv k n o len cap, .func (.func g) #[] lb] w fun e w' => ∃ o' cap', e = .returned (tyv k (newN p k n) o' len cap') ∧ SlcIn (fun b => w.heap.size ≤ b) w' o' len (ps.change p) ∧ Quiet0 w w'
theorem box_after {w W : World} {a b c : Value} {t : TypeId} {B : Nat} (h : w.heap[B]? = some (.cells #[a, b, c] t (0, 0))) (hq : Quiet0 w W) : W.heap[B]? = some (.cells #[a, b, c] t (0, 0)) := by
  rw [hq.block B (lt_of_block h) (fun h => h)]; exact h
theorem box_cells3 {w : World} {a b c : Value} {t : TypeId} {B : Nat} (h : w.heap[B]? = some (.cells #[a, b, c] t (0, 0))) : w.cell? ⟨B, 0, none⟩ = some a ∧ w.cell? ⟨B, 1, none⟩ = some b ∧ w.cell? ⟨B, 2, none⟩ = some c ∧ w.frozen? ⟨B, 0, none⟩ = false ∧ w.frozen? ⟨B, 1, none⟩ = false ∧ w.frozen? ⟨B, 2, none⟩ = false := by
  refine ⟨?_, ?_, ?_, ?_, ?_, ?_⟩
  · rw [cell_of_row _ _ _ _ _ (0, 0) h]; rfl
  · rw [cell_of_row _ _ _ _ _ (0, 0) h]; rfl
  · rw [cell_of_row _ _ _ _ _ (0, 0) h]; rfl
  · simp [World.frozen?, h]
  · simp [World.frozen?, h]
  · simp [World.frozen?, h]
theorem box_set1 {w : World} {a b c u : Value} {t : TypeId} {B : Nat} (h : w.heap[B]? = some (.cells #[a, b, c] t (0, 0))) : (w.setCell ⟨B, 1, none⟩ u).heap[B]? = some (.cells #[a, u, c] t (0, 0)) := by
  have hlt := lt_of_block h
  have h' : w.heap[B] = .cells #[a, b, c] t (0, 0) := by simpa [Array.getElem?_eq_getElem hlt] using h
  show (w.heap.modify B _)[B]? = _
  rw [Array.getElem?_eq_getElem (by simpa using hlt), Array.getElem_modify_self, h']
  rfl
theorem box_set0 {w : World} {a b c u : Value} {t : TypeId} {B : Nat} (h : w.heap[B]? = some (.cells #[a, b, c] t (0, 0))) : (w.setCell ⟨B, 0, none⟩ u).heap[B]? = some (.cells #[u, b, c] t (0, 0)) := by
  have hlt := lt_of_block h
  have h' : w.heap[B] = .cells #[a, b, c] t (0, 0) := by simpa [Array.getElem?_eq_getElem hlt] using h
  show (w.heap.modify B _)[B]? = _
  rw [Array.getElem?_eq_getElem (by simpa using hlt), Array.getElem_modify_self, h']
  rfl
theorem box_set2 {w : World} {a b c u : Value} {t : TypeId} {B : Nat} (h : w.heap[B]? = some (.cells #[a, b, c] t (0, 0))) : (w.setCell ⟨B, 2, none⟩ u).heap[B]? = some (.cells #[a, b, u] t (0, 0)) := by
  have hlt := lt_of_block h
  have h' : w.heap[B] = .cells #[a, b, c] t (0, 0) := by simpa [Array.getElem?_eq_getElem hlt] using h
  show (w.heap.modify B _)[B]? = _
  rw [Array.getElem?_eq_getElem (by simpa using hlt), Array.getElem_modify_self, h']
  rfl
set_option maxHeartbeats 4000000 in
theorem change_any {g : Nat} {lb : Array Value} {w0 : World} {G : Int → Prop} {p : Int → Int} (eg : ∀ args w, (callFunc g args).run Tryd.prog w = .ok (.enter g args) w) (hK : DoK g lb w0 G p) (k n : Int) (ps : Fo) : TChange g lb w0 G p k n ps := by
  refine Fo.ind' (T := TChange g lb w0 G p) ?_ k n ps
  intro k n ps ih w o len cap hw hs hsz hgn hgp
  have HGN := Lib.hid hgn
  have HGP := Lib.hid hgp
  clear hgn hgp
  have HS := Lib.hid hs
  have IH := Lib.hid ih
  have HL := Lib.hid hs.1
  have hmx := hs.2.1
  have hll := Fo.length_le ps
  rw [← hs.1] at hll
  unfold maxLen at hmx
  have HK := Lib.hid hK
  have HW := Lib.hid hw
  have hb0 : ((w.alloc (.cells #[.int .i64 k, .int .i64 n, .slice o len cap] 25)).alloc (.cells #[.int .i64 0, .int .i64 0, .slice none 0 0] 25)).heap[w.heap.size]? = some (.cells #[.int .i64 k, .int .i64 n, .slice o len cap] 25 (0, 0)) := by
    rw [Below.heap_alloc _ _ _ (by simp)]; exact heap_alloc_new w _
  have hb1 : ((w.alloc (.cells #[.int .i64 k, .int .i64 n, .slice o len cap] 25)).alloc (.cells #[.int .i64 0, .int .i64 0, .slice none 0 0] 25)).heap[w.heap.size + 1]? = some (.cells #[.int .i64 0, .int .i64 0, .slice none 0 0] 25 (0, 0)) := by
    have := heap_alloc_new (w.alloc (.cells #[.int .i64 k, .int .i64 n, .slice o len cap] 25)) (.cells #[.int .i64 0, .int .i64 0, .slice none 0 0] 25)
    simpa using this
  have HB0 := Lib.hid hb0
  have HB1 := Lib.hid hb1
  clear hs ih hK hw hb0 hb1
  unfold tyv
  cases hk : (k == 1)
  · go_enter Tryd.func106, Tryd.ntmps106
    go_wp2_with fail
    obtain ⟨W0, hW0⟩ : ∃ W0, W0 = ((w.alloc (.cells #[.int .i64 k, .int .i64 n, .slice o len cap] 25)).alloc (.cells #[.int .i64 0, .int .i64 0, .slice none 0 0] 25)) := ⟨_, rfl⟩
    change Code.wp _ _ _ _ ((w.alloc (.cells #[.int .i64 k, .int .i64 n, .slice o len cap] 25)).alloc (.cells #[.int .i64 0, .int .i64 0, .slice none 0 0] 25))
    have HQ0 : Hid (Quiet0 w W0) := by rw [hW0]; exact (Quiet0.alloc _ _).trans (Quiet0.alloc _ _)
    have hz0 : w.heap.size + 2 ≤ W0.heap.size := by rw [hW0]; simp
    have HN : Hid (newN p k n = n) := by show _ = _; unfold newN; rw [hk]; rfl
    rw [← hW0] at HB0 HB1 ⊢
    clear hW0 hk
    generalize hnn : newN p k n = n' at *
    generalize hB : w.heap.size = B at *
    have HBE := Lib.hid hB
    clear hB
    go_loopw [5, 19] (fun v t wr => ∃ (i : Nat) (f : Fo) (xs : List Value) (vo : Option Addr) (vc : Nat), t = .int .i64 i ∧ i ≤ len ∧ v = .slice vo i vc ∧ f.length = i ∧ f.app ((ps.drop i).change p) = ps.change p ∧ TyRow wr W0.heap.size (.slice vo i vc) f xs ∧ Quiet0 W0 wr) (fun _ t _ => len - (intOf t).toNat)
    case atStart => exact ⟨0, .nil, [], none, 0, rfl, Nat.zero_le _, rfl, rfl, by rw [Fo.drop_zero]; rfl, TyRow.nil _ _, Quiet0.refl _⟩
    case round =>
      obtain ⟨i, f, xs, vo, vc, rfl, hi, rfl, hfl, hap, hrow, hq⟩ := hrel
      have HF := Lib.hid hfl
      have HAP := Lib.hid hap
      have HR := Lib.hid hrow
      have HQ := Lib.hid hq
      clear hfl hap hrow hq
      by_cases hlt : i < len
      · have hlt' : (i : Int) < len := by omega
        obtain ⟨b, off, k1, n1, qs, o1, len1, cap1, rfl, hd, hg, e0, e1, e2, hs1⟩ := (HS.out.stay (HQ0.out.trans HQ.out)).nth hlt
        have hsq := Fo.size_get ps i k1 n1 qs hg
        have HC := Lib.hid (IH.out i k1 n1 qs hg (wr.alloc (.cells #[.int .i64 k1, .int .i64 n1, .slice o1 len1 cap1] 25)) o1 len1 cap1 (HW.out.trans ((HQ0.out.trans HQ.out).trans (Quiet0.alloc _ _))) (hs1.stay (Quiet0.alloc _ _)) (by omega) (allF_get ps i k1 n1 qs HGP.out hg).1 (allF_get ps i k1 n1 qs HGP.out hg).2)
        have HD : Hid ((f.app (.cons k1 (newN p k1 n1) (qs.change p) .nil)).app ((ps.drop (i + 1)).change p) = ps.change p) := by
          show _ = _
          rw [← HAP.out, hd, Fo.app_assoc]; rfl
        unfold tyv at HC
        clear hd hg hs1 hsq
        generalize newN p k1 n1 = n2 at *
        go_wp2_with fail
        refine HC.out.mono ?_; rintro e w1 ⟨o2, cap2, rfl, hs2, hq1⟩
        have HS2 := Lib.hid hs2
        have HQ1 := Lib.hid ((Quiet0.alloc _ _).trans hq1)
        have HR1 := Lib.hid (HR.out.stay HQ1.out)
        clear hs2 hq1
        go_wp2_with (at_builtin; go_must (refine wpList_append_one w1 rfl (.tmp 23) (.tmp 27) 23 rfl 25 _ 3 40 elemTy (.slice vo i vc) i xs rfl (HF.out ▸ HR1.out.own) #[.int .i64 k1, .int .i64 n2, .slice o2 len1 cap2] rfl rfl ?c1 ?c2 ?c3 ?_))
        case c1 => simp [Value.oneCell']
        case c2 => unfold maxLen; omega
        case c3 => omega
        intro g2 c' w2 ho hf hg2
        have hlow : W0.heap.size ≤ w1.heap.size := Nat.le_trans HQ.out.size HQ1.out.size
        have hown : ∀ kk, (Value.slice vo i vc).ownBlock = some kk → kk < wr.heap.size := fun kk h => (HR.out.own.lt kk h).2
        have HR2 : Hid (TyRow w2 W0.heap.size (.slice (some ⟨g2, 0, none⟩) (i + 1) c') (f.app (.cons k1 n2 (qs.change p) .nil)) (xs ++ [.int .i64 k1, .int .i64 n2, .slice o2 len1 cap2])) := by
          show TyRow _ _ _ _ _
          have hf' := HF.out
          subst hf'
          refine TyRow.snoc HR1.out (HS2.out.fr (Fr.refl (fun _ => False) _) ?_) ho hf hg2 hlow
          intro kk _ hkk
          have hkk' : (wr.alloc (.cells #[.int .i64 k1, .int .i64 n1, .slice o1 len1 cap1] 25)).heap.size ≤ kk := hkk
          simp at hkk'
          refine ⟨⟨by have := HQ.out.size; omega, fun h => ?_⟩, fun h => h⟩
          have := hown kk h; omega
        have HQ2 : Hid (Quiet0 W0 w2) := by
          show Quiet0 _ _
          exact Fr.trans' (HQ.out.trans HQ1.out) hf (fun kk hkk h => absurd (HR.out.low kk h) (by omega))
        have HL2 : Hid ((f.app (.cons k1 n2 (qs.change p) .nil)).length = i + 1) := by
          show _ = _
          rw [Fo.app_length, HF.out]; rfl
        clear ho hf hg2 hown
        go_wp2_with fail
        go_roundw
        case rel => exact ⟨i + 1, _, _, some ⟨g2, 0, none⟩, c', by go_num, by omega, rfl, HL2.out, HD.out, HR2.out, HQ2.out⟩
        case measure => simp [intOf]; omega
      · have hlt' : ¬ (i : Int) < len := by omega
        have hb1 := box_after HB1.out HQ.out
        have hb0 := box_after HB0.out HQ.out
        obtain ⟨c0, c1, c2, z0, z1, z2⟩ := box_cells3 hb0
        obtain ⟨d0, d1, d2, y0, y1, y2⟩ := box_cells3 hb1
        have HB0 := Lib.hid hb0
        have HB1 := Lib.hid hb1
        clear hb0 hb1
        have hil : i = len := by omega
        have HFIN : Hid (∀ u v x y : Value, SlcIn (fun b => w.heap.size ≤ b) ((((wr.setCell ⟨B, 2, none⟩ u).setCell ⟨B + 1, 0, none⟩ v).setCell ⟨B + 1, 1, none⟩ x).setCell ⟨B + 1, 2, none⟩ y) vo len (ps.change p) ∧ Quiet0 w ((((wr.setCell ⟨B, 2, none⟩ u).setCell ⟨B + 1, 0, none⟩ v).setCell ⟨B + 1, 1, none⟩ x).setCell ⟨B + 1, 2, none⟩ y)) := by
          intro u v x y
          have hf : Fr (fun kk => kk = B ∨ kk = B + 1) wr ((((wr.setCell ⟨B, 2, none⟩ u).setCell ⟨B + 1, 0, none⟩ v).setCell ⟨B + 1, 1, none⟩ x).setCell ⟨B + 1, 2, none⟩ y) :=
            (((Fr.setCell _ _ _ _ (.inl rfl)).trans (Fr.setCell _ _ _ _ (.inr rfl))).trans (Fr.setCell _ _ _ _ (.inr rfl))).trans (Fr.setCell _ _ _ _ (.inr rfl))
          have hap := HAP.out
          subst hil
          rw [Fo.drop_end ps i (by have := HL.out; omega)] at hap
          simp only [Fo.change] at hap
          rw [Fo.app_nil] at hap
          refine ⟨?_, ?_⟩
          · rw [← hap]
            refine (HR.out.slc HF.out.symm (by unfold maxLen; omega)).fr hf ?_
            intro kk _ hkk
            have hkk' : W0.heap.size ≤ kk := hkk
            have hz := HBE.out
            exact ⟨by omega, by omega⟩
          · exact Fr.trans' (HQ0.out.trans HQ.out) hf (fun kk hkk h => by have hz := HBE.out; omega)
        go_wp2_with fail
        have hbf := box_set2 (u := .slice vo len vc) (box_set1 (u := .int .i64 n') (box_set0 (u := .int .i64 k) (B := B + 1) (w := wr.setCell ⟨B, 2, none⟩ (.slice vo len vc)) (by rw [Below.heap_setCell _ _ _ _ (by show B + 1 ≠ B; omega)]; exact HB1.out)))
        obtain ⟨f0, f1, f2, _, _, _⟩ := box_cells3 hbf
        have HFF := HFIN.out (.slice vo len vc) (.int .i64 k) (.int .i64 n') (.slice vo len vc)
        have hn' := HN.out
        clear hbf
        rw [hn'] at f0 f1 f2 HFF ⊢
        generalize ((((wr.setCell ⟨B, 2, none⟩ (.slice vo len vc)).setCell ⟨B + 1, 0, none⟩ (.int .i64 k)).setCell ⟨B + 1, 1, none⟩ (.int .i64 n)).setCell ⟨B + 1, 2, none⟩ (.slice vo len vc)) = wf at *
        refine bodyPost_ret (by simp [results, Tryd.results106, go_sem, f0, f1, f2]; rfl) rfl ?_
        exact ⟨vo, ⟨vc, rfl⟩, HFF⟩
  · go_enter Tryd.func106, Tryd.ntmps106
    go_wp2_with fail
    refine (HK.out n _ HGN.out (HW.out.trans ((Quiet0.alloc _ _).trans (Quiet0.alloc _ _)))).mono ?_; rintro e w1 ⟨rfl, hq1⟩
    have hb1 := box_after HB1.out hq1
    have hb0 := box_after HB0.out hq1
    obtain ⟨c0, c1, c2, z0, z1, z2⟩ := box_cells3 hb0
    have HB0 := Lib.hid hb0
    have HB1 := Lib.hid hb1
    clear hb0 hb1
    go_wp2_with fail
    obtain ⟨W0, hW0⟩ : ∃ W0, W0 = w1.setCell ⟨w.heap.size, 1, none⟩ (.int .i64 (p n)) := ⟨_, rfl⟩
    change Code.wp _ _ _ _ (w1.setCell ⟨w.heap.size, 1, none⟩ (.int .i64 (p n)))
    have hsz1 : w.heap.size + 2 ≤ w1.heap.size := by have := hq1.size; simp at this; omega
    have HQ0 : Hid (Quiet0 w W0) := by
      rw [hW0]
      exact (((Quiet0.alloc _ _).trans (Quiet0.alloc _ _)).trans hq1).trans' (Fr.setCell (fun kk => kk = w.heap.size) _ _ _ rfl) (fun i hi h => by omega)
    have hz0 : w.heap.size + 2 ≤ W0.heap.size := by rw [hW0]; simpa [World.setCell] using hsz1
    have HN : Hid (newN p k n = p n) := by show _ = _; unfold newN; rw [hk]; rfl
    replace HB0 : Hid (W0.heap[w.heap.size]? = some (.cells #[.int .i64 k, .int .i64 (p n), .slice o len cap] 25 (0, 0))) := by
      rw [hW0]; exact box_set1 HB0.out
    replace HB1 : Hid (W0.heap[w.heap.size + 1]? = some (.cells #[.int .i64 0, .int .i64 0, .slice none 0 0] 25 (0, 0))) := by
      show _ = _
      rw [hW0, Below.heap_setCell _ _ _ _ (by show w.heap.size + 1 ≠ w.heap.size; omega)]; exact HB1.out
    rw [← hW0]
    clear hW0 hk hsz1 c0 c1 c2 z0 z1 z2 hq1
    generalize hnn : newN p k n = n' at *
    generalize hB : w.heap.size = B at *
    have HBE := Lib.hid hB
    clear hB
    go_loopw [5, 19] (fun v t wr => ∃ (i : Nat) (f : Fo) (xs : List Value) (vo : Option Addr) (vc : Nat), t = .int .i64 i ∧ i ≤ len ∧ v = .slice vo i vc ∧ f.length = i ∧ f.app ((ps.drop i).change p) = ps.change p ∧ TyRow wr W0.heap.size (.slice vo i vc) f xs ∧ Quiet0 W0 wr) (fun _ t _ => len - (intOf t).toNat)
    case atStart => exact ⟨0, .nil, [], none, 0, rfl, Nat.zero_le _, rfl, rfl, by rw [Fo.drop_zero]; rfl, TyRow.nil _ _, Quiet0.refl _⟩
    case round =>
      obtain ⟨i, f, xs, vo, vc, rfl, hi, rfl, hfl, hap, hrow, hq⟩ := hrel
      have HF := Lib.hid hfl
      have HAP := Lib.hid hap
      have HR := Lib.hid hrow
      have HQ := Lib.hid hq
      clear hfl hap hrow hq
      by_cases hlt : i < len
      · have hlt' : (i : Int) < len := by omega
        obtain ⟨b, off, k1, n1, qs, o1, len1, cap1, rfl, hd, hg, e0, e1, e2, hs1⟩ := (HS.out.stay (HQ0.out.trans HQ.out)).nth hlt
        have hsq := Fo.size_get ps i k1 n1 qs hg
        have HC := Lib.hid (IH.out i k1 n1 qs hg (wr.alloc (.cells #[.int .i64 k1, .int .i64 n1, .slice o1 len1 cap1] 25)) o1 len1 cap1 (HW.out.trans ((HQ0.out.trans HQ.out).trans (Quiet0.alloc _ _))) (hs1.stay (Quiet0.alloc _ _)) (by omega) (allF_get ps i k1 n1 qs HGP.out hg).1 (allF_get ps i k1 n1 qs HGP.out hg).2)
        have HD : Hid ((f.app (.cons k1 (newN p k1 n1) (qs.change p) .nil)).app ((ps.drop (i + 1)).change p) = ps.change p) := by
          show _ = _
          rw [← HAP.out, hd, Fo.app_assoc]; rfl
        unfold tyv at HC
        clear hd hg hs1 hsq
        generalize newN p k1 n1 = n2 at *
        go_wp2_with fail
        refine HC.out.mono ?_; rintro e w1 ⟨o2, cap2, rfl, hs2, hq1⟩
        have HS2 := Lib.hid hs2
        have HQ1 := Lib.hid ((Quiet0.alloc _ _).trans hq1)
        have HR1 := Lib.hid (HR.out.stay HQ1.out)
        clear hs2 hq1
        go_wp2_with (at_builtin; go_must (refine wpList_append_one w1 rfl (.tmp 23) (.tmp 27) 23 rfl 25 _ 3 40 elemTy (.slice vo i vc) i xs rfl (HF.out ▸ HR1.out.own) #[.int .i64 k1, .int .i64 n2, .slice o2 len1 cap2] rfl rfl ?c1 ?c2 ?c3 ?_))
        case c1 => simp [Value.oneCell']
        case c2 => unfold maxLen; omega
        case c3 => omega
        intro g2 c' w2 ho hf hg2
        have hlow : W0.heap.size ≤ w1.heap.size := Nat.le_trans HQ.out.size HQ1.out.size
        have hown : ∀ kk, (Value.slice vo i vc).ownBlock = some kk → kk < wr.heap.size := fun kk h => (HR.out.own.lt kk h).2
        have HR2 : Hid (TyRow w2 W0.heap.size (.slice (some ⟨g2, 0, none⟩) (i + 1) c') (f.app (.cons k1 n2 (qs.change p) .nil)) (xs ++ [.int .i64 k1, .int .i64 n2, .slice o2 len1 cap2])) := by
          show TyRow _ _ _ _ _
          have hf' := HF.out
          subst hf'
          refine TyRow.snoc HR1.out (HS2.out.fr (Fr.refl (fun _ => False) _) ?_) ho hf hg2 hlow
          intro kk _ hkk
          have hkk' : (wr.alloc (.cells #[.int .i64 k1, .int .i64 n1, .slice o1 len1 cap1] 25)).heap.size ≤ kk := hkk
          simp at hkk'
          refine ⟨⟨by have := HQ.out.size; omega, fun h => ?_⟩, fun h => h⟩
          have := hown kk h; omega
        have HQ2 : Hid (Quiet0 W0 w2) := by
          show Quiet0 _ _
          exact Fr.trans' (HQ.out.trans HQ1.out) hf (fun kk hkk h => absurd (HR.out.low kk h) (by omega))
        have HL2 : Hid ((f.app (.cons k1 n2 (qs.change p) .nil)).length = i + 1) := by
          show _ = _
          rw [Fo.app_length, HF.out]; rfl
        clear ho hf hg2 hown
        go_wp2_with fail
        go_roundw
        case rel => exact ⟨i + 1, _, _, some ⟨g2, 0, none⟩, c', by go_num, by omega, rfl, HL2.out, HD.out, HR2.out, HQ2.out⟩
        case measure => simp [intOf]; omega
      · have hlt' : ¬ (i : Int) < len := by omega
        have hb1 := box_after HB1.out HQ.out
        have hb0 := box_after HB0.out HQ.out
        obtain ⟨c0, c1, c2, z0, z1, z2⟩ := box_cells3 hb0
        obtain ⟨d0, d1, d2, y0, y1, y2⟩ := box_cells3 hb1
        have HB0 := Lib.hid hb0
        have HB1 := Lib.hid hb1
        clear hb0 hb1
        have hil : i = len := by omega
        have HFIN : Hid (∀ u v x y : Value, SlcIn (fun b => w.heap.size ≤ b) ((((wr.setCell ⟨B, 2, none⟩ u).setCell ⟨B + 1, 0, none⟩ v).setCell ⟨B + 1, 1, none⟩ x).setCell ⟨B + 1, 2, none⟩ y) vo len (ps.change p) ∧ Quiet0 w ((((wr.setCell ⟨B, 2, none⟩ u).setCell ⟨B + 1, 0, none⟩ v).setCell ⟨B + 1, 1, none⟩ x).setCell ⟨B + 1, 2, none⟩ y)) := by
          intro u v x y
          have hf : Fr (fun kk => kk = B ∨ kk = B + 1) wr ((((wr.setCell ⟨B, 2, none⟩ u).setCell ⟨B + 1, 0, none⟩ v).setCell ⟨B + 1, 1, none⟩ x).setCell ⟨B + 1, 2, none⟩ y) :=
            (((Fr.setCell _ _ _ _ (.inl rfl)).trans (Fr.setCell _ _ _ _ (.inr rfl))).trans (Fr.setCell _ _ _ _ (.inr rfl))).trans (Fr.setCell _ _ _ _ (.inr rfl))
          have hap := HAP.out
          subst hil
          rw [Fo.drop_end ps i (by have := HL.out; omega)] at hap
          simp only [Fo.change] at hap
          rw [Fo.app_nil] at hap
          refine ⟨?_, ?_⟩
          · rw [← hap]
            refine (HR.out.slc HF.out.symm (by unfold maxLen; omega)).fr hf ?_
            intro kk _ hkk
            have hkk' : W0.heap.size ≤ kk := hkk
            have hz := HBE.out
            exact ⟨by omega, by omega⟩
          · exact Fr.trans' (HQ0.out.trans HQ.out) hf (fun kk hkk h => by have hz := HBE.out; omega)
        go_wp2_with fail
        have hbf := box_set2 (u := .slice vo len vc) (box_set1 (u := .int .i64 n') (box_set0 (u := .int .i64 k) (B := B + 1) (w := wr.setCell ⟨B, 2, none⟩ (.slice vo len vc)) (by rw [Below.heap_setCell _ _ _ _ (by show B + 1 ≠ B; omega)]; exact HB1.out)))
        obtain ⟨f0, f1, f2, _, _, _⟩ := box_cells3 hbf
        have HFF := HFIN.out (.slice vo len vc) (.int .i64 k) (.int .i64 n') (.slice vo len vc)
        have hn' := HN.out
        clear hbf
        rw [hn'] at f0 f1 f2 HFF ⊢
        generalize ((((wr.setCell ⟨B, 2, none⟩ (.slice vo len vc)).setCell ⟨B + 1, 0, none⟩ (.int .i64 k)).setCell ⟨B + 1, 1, none⟩ (.int .i64 (p n))).setCell ⟨B + 1, 2, none⟩ (.slice vo len vc)) = wf at *
        refine bodyPost_ret (by simp [results, Tryd.results106, go_sem, f0, f1, f2]; rfl) rfl ?_
        exact ⟨vo, ⟨vc, rfl⟩, HFF⟩
end Go.Proofs.YtnfodiedalhlhaaDoor
end
section
namespace Go.Proofs.YtnfodiedalhlhaaDoor
open Go.RowKit Go.Shelf
def put3 (w : World) (B : Nat) (a b c : Value) : World := ((w.setCell ⟨B, 0, none⟩ a).setCell ⟨B, 1, none⟩ b).setCell ⟨B, 2, none⟩ c
theorem put3_fr (w : World) (B : Nat) (a b c : Value) : Fr (fun k => k = B) w (put3 w B a b c) :=
  ((Fr.setCell (fun k => k = B) w ⟨B, 0, none⟩ a rfl).trans (Fr.setCell (fun k => k = B) _ ⟨B, 1, none⟩ b rfl)).trans (Fr.setCell (fun k => k = B) _ ⟨B, 2, none⟩ c rfl)
theorem put3_cells {w : World} {B : Nat} {a b c a' b' c' : Value} {t : TypeId} (h : w.heap[B]? = some (.cells #[a', b', c'] t (0, 0))) :
    (put3 w B a b c).cell? ⟨B, 0, none⟩ = some a ∧ (put3 w B a b c).cell? ⟨B, 1, none⟩ = some b ∧ (put3 w B a b c).cell? ⟨B, 2, none⟩ = some c := by
  have hbf := box_set2 (u := c) (box_set1 (u := b) (box_set0 (u := a) h))
  obtain ⟨f0, f1, f2, _, _, _⟩ := box_cells3 hbf
  exact ⟨f0, f1, f2⟩
theorem copy1_any (w0 : World) : DoK 107 #[] w0 (fun _ => True) (fun n => n) := by
  intro n W _ _
  go_enter Tryd.func107, Tryd.ntmps107
  go_wp2_with fail
  go_ret
  exact ⟨rfl, Quiet0.refl _⟩
theorem eg_copy : ∀ args w, (callFunc 107 args).run Tryd.prog w = .ok (.enter 107 args) w := enters_of Tryd.func107 (by kernel_rfl) rfl
set_option maxHeartbeats 1000000 in
theorem copy_any (k n : Int) (ps : Fo) (w : World) (o : Option Addr) (len cap : Nat) (hs : Slc w o len ps) (hsz : ps.size ≤ 1000000) :
    Calls Tryd.prog 87 #[tyv k n o len cap] w fun e w' => ∃ o' cap', e = .returned (tyv k n o' len cap') ∧ SlcIn (fun b => w.heap.size ≤ b) w' o' len ps ∧ Quiet0 w w' := by
  have HC := Lib.hid (change_any eg_copy (copy1_any w) k n ps ((w.alloc (.cells #[.int .i64 k, .int .i64 n, .slice o len cap] 25)).alloc (.cells #[.int .i64 0, .int .i64 0, .slice none 0 0] 25)) o len cap ((Quiet0.alloc _ _).trans (Quiet0.alloc _ _)) (hs.stay ((Quiet0.alloc _ _).trans (Quiet0.alloc _ _))) hsz trivial (allF_true (fun _ => trivial) ps))
  rw [Fo.change_id, show newN (fun n => n) k n = n from by unfold newN; split <;> rfl] at HC
  have hb1 : ((w.alloc (.cells #[.int .i64 k, .int .i64 n, .slice o len cap] 25)).alloc (.cells #[.int .i64 0, .int .i64 0, .slice none 0 0] 25)).heap[w.heap.size + 1]? = some (.cells #[.int .i64 0, .int .i64 0, .slice none 0 0] 25 (0, 0)) := by
    have := heap_alloc_new (w.alloc (.cells #[.int .i64 k, .int .i64 n, .slice o len cap] 25)) (.cells #[.int .i64 0, .int .i64 0, .slice none 0 0] 25)
    simpa using this
  have HB1 := Lib.hid hb1
  clear hs hb1
  unfold tyv at *
  go_enter Tryd.func87, Tryd.ntmps87
  go_wp2_with fail
  refine HC.out.mono ?_; rintro e w1 ⟨o2, cap2, rfl, hs2, hq1⟩
  have hb1 := box_after HB1.out hq1
  have HB2 := Lib.hid hb1
  obtain ⟨d0, d1, d2, y0, y1, y2⟩ := box_cells3 hb1
  have HS2 := Lib.hid hs2
  have HQ1 := Lib.hid hq1
  clear hs2 hq1 hb1
  go_wp2_with fail
  clear d0 d1 d2 y0 y1 y2
  have hf := put3_fr w1 (w.heap.size + 1) (.int .i64 k) (.int .i64 n) (.slice o2 len cap2)
  obtain ⟨f0, f1, f2⟩ := put3_cells (a := .int .i64 k) (b := .int .i64 n) (c := .slice o2 len cap2) HB2.out
  change bodyPost _ _ _ _ _ (put3 w1 (w.heap.size + 1) (.int .i64 k) (.int .i64 n) (.slice o2 len cap2))
  generalize put3 w1 (w.heap.size + 1) (.int .i64 k) (.int .i64 n) (.slice o2 len cap2) = wf at *
  refine bodyPost_ret (by simp [results, Tryd.results87, go_sem, f0, f1, f2]; rfl) rfl ?_
  refine ⟨o2, cap2, rfl, HS2.out.fr hf ?_, (((Quiet0.alloc _ _).trans (Quiet0.alloc _ _)).trans HQ1.out).trans' hf (fun kk hkk h => by omega)⟩
  intro kk _ hkk
  have hkk' : ((w.alloc (.cells #[.int .i64 k, .int .i64 n, .slice o len cap] 25)).alloc (.cells #[.int .i64 0, .int .i64 0, .slice none 0 0] 25)).heap.size ≤ kk := hkk
  simp at hkk'
  exact ⟨by omega, by omega⟩
end Go.Proofs.YtnfodiedalhlhaaDoor
end
section
namespace Go.Proofs.YtnfodiedalhlhaaDoor
open Go.RowKit
theorem with_q {w0 W w3 : World} {G : Prop} (h : Quiet0 w0 W) (hq : Quiet0 W w3) (k : Quiet0 w0 w3 → G) : G := k (h.trans hq)
theorem blk_new (w : World) (b : Nat) (cs : Array Value) (t : TypeId) (h : b = w.heap.size) : (w.alloc (.cells cs t)).heap[b]? = some (.cells cs t (0, 0)) := by
  subst h; exact heap_alloc_new w _
theorem blk_after {w W : World} {b : Nat} {o : Obj} (hq : Quiet0 w W) (h : w.heap[b]? = some o) : W.heap[b]? = some o := by
  have hlt : b < w.heap.size := (Array.getElem?_eq_some_iff.1 h).1
  rw [hq.block b hlt (fun h => h)]; exact h
theorem blk_drew {w : World} {b : Nat} {o : Obj} (h : w.heap[b]? = some o) : w.drew.heap[b]? = some o := h
theorem Quiet0.fr {S : Nat → Prop} {w w' : World} (h : Quiet0 w w') : Fr S w w' := h.mono (fun _ _ h => h.elim)
theorem with_frq {S : Nat → Prop} {w0 W w3 : World} {G : Prop} (h : Fr S w0 W) (hq : Quiet0 W w3) (k : Fr S w0 w3 → G) : G := k (h.trans hq.fr)
theorem set_block {w : World} {b i : Nat} {cs : Array Value} {u : Value} {t : TypeId} {z : Nat × Nat} (h : w.heap[b]? = some (.cells cs t z)) : (w.setCell ⟨b, i, none⟩ u).heap[b]? = some (.cells (cs.setIfInBounds i u) t z) := by
  have hlt := (Array.getElem?_eq_some_iff.1 h).1
  have h' : w.heap[b] = .cells cs t z := by simpa [Array.getElem?_eq_getElem hlt] using h
  show (w.heap.modify b _)[b]? = _
  rw [Array.getElem?_eq_getElem (by simpa using hlt), Array.getElem_modify_self, h']
  rfl
theorem blk_fr {S : Nat → Prop} {w W : World} {b : Nat} {o : Obj} (hf : Fr S w W) (hb : ¬ S b) (h : w.heap[b]? = some o) : W.heap[b]? = some o := by
  rw [hf.block b (Array.getElem?_eq_some_iff.1 h).1 hb]; exact h
theorem with_fr2 {w0 W w3 : World} {S : Nat → Prop} {G : Prop} (h : Quiet0 w0 W) (hf : Fr S W w3) (hS : ∀ k, S k → w0.heap.size ≤ k) (k : Quiet0 w0 w3 → w0.heap.size ≤ w3.heap.size → G) : G :=
  have hq : Quiet0 w0 w3 := Fr.trans' h hf (fun i hi hs => by have := hS i hs; omega)
  k hq hq.size
end Go.Proofs.YtnfodiedalhlhaaDoor
end
