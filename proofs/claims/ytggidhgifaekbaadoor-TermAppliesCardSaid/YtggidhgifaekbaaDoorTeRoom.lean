/-
  The law's bound on terms (room, Great). Conditions: the term lies in memory as told.
-/
import Derived.Test.YtggidhgifaekbaaDoorTeRef
namespace Go.Proofs.YtggidhgifaekbaaDoor
open Go.RowKit

/-- is a head too much -/
def bigH (h : Nd) : Bool := decide (60 < h.nm.size) || greatF h.tp
namespace To
/-- how much is left of m, terms taken from it (the law's room, over parts that lie d deep at most) -/
def room : Nat → Int → To → Int
  | _, m, nil => m
  | d, m, cons h ps r => if m < 0 then m else
      match d with
      | 0 => room 0 (-1) r
      | d + 1 => room (d + 1) (if bigH h then -1 else room d (m - 1) ps) r
theorem room_neg : ∀ (f : To) (d : Nat) (m : Int), m < 0 → room d m f = m
  | nil, _, _, _ => by unfold room; rfl
  | cons h ps r, d, m, e => by unfold room; rw [if_pos e]
theorem room_le : ∀ (f : To) (d : Nat) (m : Int), 0 ≤ m → room d m f ≤ m ∧ -1 ≤ room d m f
  | nil, _, _, _ => by unfold room; omega
  | cons h ps r, d, m, e => by
    unfold room
    rw [if_neg (by omega)]
    cases d with
    | zero => simp only; rw [room_neg r 0 (-1) (by omega)]; omega
    | succ d =>
      simp only
      cases hb : bigH h
      · simp only [Bool.false_eq_true, if_false]
        by_cases hm : 0 ≤ m - 1
        · have h1 := room_le ps d (m - 1) hm
          by_cases h0 : 0 ≤ room d (m - 1) ps
          · have h2 := room_le r (d + 1) _ h0; omega
          · rw [room_neg r _ _ (by omega)]; omega
        · rw [room_neg ps _ _ (by omega), room_neg r _ _ (by omega)]; omega
      · simp only [if_true]
        rw [room_neg r _ _ (by omega)]; omega
theorem room_all : ∀ (f : To) (d : Nat) (m : Int), 0 ≤ room d m f → room d m f = m - f.size ∧ 0 ≤ m ∧ f.depth ≤ d ∧ allT (fun h => bigH h = false) f
  | nil, _, m, h => by unfold room at h ⊢; simp [size, depth, allT]; exact h
  | cons h ps r, d, m, e => by
    unfold room at e ⊢
    by_cases hm : m < 0
    · rw [if_pos hm] at e; omega
    · rw [if_neg hm] at e ⊢
      cases d with
      | zero => simp only at e; rw [room_neg r 0 (-1) (by omega)] at e; omega
      | succ d =>
        simp only at e ⊢
        obtain ⟨h1, h2, h3, h4⟩ := room_all r (d + 1) _ e
        cases hb : bigH h
        · rw [hb] at h1 h2 e
          simp only [Bool.false_eq_true, if_false] at h1 h2 e ⊢
          obtain ⟨g1, g2, g3, g4⟩ := room_all ps d (m - 1) h2
          rw [h1, g1]
          refine ⟨by simp only [size]; omega, by omega, by simp only [depth]; omega, hb, g4, h4⟩
        · rw [hb] at h2; simp at h2
end To
/-- the law's room of one term -/
def roomOne (d : Nat) (m : Int) (h : Nd) (ps : To) : Int := if d = 0 then -1 else if bigH h then -1 else To.room (d - 1) (m - 1) ps
theorem room_cons (d : Nat) (m : Int) (h : Nd) (ps r : To) (hm : 0 ≤ m) : To.room d m (.cons h ps r) = To.room d (roomOne d m h ps) r := by
  conv => lhs; unfold To.room
  rw [if_neg (by omega)]
  unfold roomOne
  cases d with
  | zero => rfl
  | succ d => rfl
theorem roomOne_le (d : Nat) (m : Int) (h : Nd) (ps : To) (hm : 0 ≤ m) : -1 ≤ roomOne d m h ps ∧ roomOne d m h ps ≤ m := by
  unfold roomOne
  split
  · omega
  · split
    · omega
    · by_cases h1 : 0 ≤ m - 1
      · have := To.room_le ps (d - 1) (m - 1) h1; omega
      · rw [To.room_neg _ _ _ (by omega)]; omega
def LRoomT (h : Nd) (ps : To) : Prop := ∀ (w : World) (R : Nat → Prop) (o1 : Option Addr) (l1 c1 : Nat) (o2 : Option Addr) (l2 c2 : Nat) (d : Nat) (m : Int) (di : Int), di = d → SlcIn R w o1 l1 h.tp → TSlc R w o2 l2 ps → h.nm.size ≤ 9223372036854775807 → allT (fun h => h.nm.size ≤ 9223372036854775807) ps → 0 ≤ m → m ≤ 100000 → d ≤ 100000 →
  Calls Tryd.prog 73 #[tmv h o1 l1 c1 o2 l2 c2, .int .i64 m, .int .i64 di] w fun e w' => e = .returned (.int .i64 (roomOne d m h ps)) ∧ Quiet0 w w'
set_option maxHeartbeats 2000000 in
theorem roomT_any (h : Nd) (ps : To) : LRoomT h ps := by
  refine To.ind' (T := LRoomT) ?_ h ps
  intro h ps ih w R o1 l1 c1 o2 l2 c2 d m di ed hs1 hs hnm hnms hm0 hm1 hd1
  subst ed
  have HG := Lib.hid (fun (W : World) (hq : Quiet0 w W) => great_any h.tk h.tn h.tp W o1 l1 c1 (hs1.slc.stay hq))
  have HS := Lib.hid hs
  have IH := Lib.hid ih
  have HL := Lib.hid hs.1
  have HNM := Lib.hid hnms
  have hmx := hs.2.1
  unfold maxLen at hmx
  unfold tyv at HG
  clear hs ih hnms
  by_cases hd0 : d = 0
  · subst hd0
    unfold tmv roomOne
    go_enter Tryd.func73, Tryd.ntmps73
    go_wp2_with fail
    go_ret
    exact ⟨rfl, Quiet0.alloc _ _⟩
  · obtain ⟨D, hD⟩ : ∃ D, D = d - 1 := ⟨_, rfl⟩
    have hd0' : ((d : Int) == 0) = false := by simp; omega
    have hdD : d = D + 1 := by omega
    by_cases h60 : 60 < h.nm.size
    · have h60' : (60 : Int) < (h.nm.size : Int) := by omega
      have HF : Hid (roomOne d m h ps = -1) := by show _ = _; unfold roomOne bigH; rw [if_neg hd0]; simp [h60]
      rw [HF.out]
      clear hd0 hD
      unfold tmv
      go_enter Tryd.func73, Tryd.ntmps73
      go_wp2_with fail
      go_ret
      exact ⟨rfl, Quiet0.alloc _ _⟩
    · have h60' : ¬ (60 : Int) < (h.nm.size : Int) := by omega
      cases hg : greatF h.tp
      · obtain ⟨res, hres⟩ : ∃ res, res = To.room D (m - 1) ps := ⟨_, rfl⟩
        have HRES := Lib.hid hres
        have HF : Hid (roomOne d m h ps = res) := by show _ = _; unfold roomOne bigH; rw [if_neg hd0, hres, hg, ← hD]; simp [h60]
        rw [HF.out]
        rw [hg] at HG
        have HDD := Lib.hid hdD
        have hD1 : D ≤ 100000 := by omega
        have hd1' : 1 ≤ d := by omega
        clear hres hd0 hD hdD hg h60
        obtain ⟨W0, hW0⟩ : ∃ W0, W0 = w.alloc (.cells (cells9 h o1 l1 c1 o2 l2 c2) 35) := ⟨_, rfl⟩
        have HB : Hid (∀ W, Quiet0 W0 W → W.cell? ⟨w.heap.size, 6, none⟩ = some (.slice o2 l2 c2)) := by
          intro W hq; rw [hW0] at hq; exact (box9 w h o1 l1 c1 o2 l2 c2 _ W hq).2.2.2.2.2.2.1
        have HQ0 : Hid (Quiet0 w W0) := by rw [hW0]; exact Quiet0.alloc _ _
        unfold tmv
        go_enter Tryd.func73, Tryd.ntmps73
        go_wp2_with fail
        change Calls _ _ _ (w.alloc (.cells (cells9 h o1 l1 c1 o2 l2 c2) 35)) _
        rw [← hW0]
        refine (HG.out _ HQ0.out).mono ?_; rintro e w1 ⟨rfl, hq1⟩
        have HQ1 := Lib.hid hq1
        clear hW0 hq1
        go_wp2_with fail
        generalize w.heap.size = nb at *
        go_loopw [1, 7] (fun s t wr => ∃ (i : Nat) (x : Int), t = .int .i64 i ∧ s = .int .i64 x ∧ i ≤ l2 ∧ -1 ≤ x ∧ x ≤ 100000 ∧ res = To.room D x (ps.drop i) ∧ Quiet0 W0 wr) (fun _ t _ => l2 - (intOf t).toNat)
        case atStart => exact ⟨0, m - 1, rfl, rfl, Nat.zero_le _, by omega, by omega, by rw [To.drop_zero]; exact HRES.out, HQ1.out⟩
        case round =>
          obtain ⟨i, x, rfl, rfl, hi, hx0, hx1, hr, hq⟩ := hrel
          have HR := Lib.hid hr
          have HQ := Lib.hid hq
          have g2 := HB.out wr hq
          clear hr hq
          by_cases hlt : i < l2
          · have hlt' : (i : Int) < l2 := by omega
            by_cases hx : 0 ≤ x
            · obtain ⟨b, off, hd, qs, p1, m1, d1, p2, m2, d2, rfl, hdr, hg, hRb, ⟨e0, e1, e2, e3, e4, e5, e6, e7, e8⟩, hsl, ht1⟩ := (HS.out.stay (HQ0.out.trans HQ.out)).nth hlt
              have hna := allT_get ps i hd qs HNM.out hg
              have HC := Lib.hid (IH.out i hd qs hg wr R p1 m1 d1 p2 m2 d2 D x ((d : Int) - 1) (by have := HDD.out; omega) hsl ht1 hna.1 hna.2 hx hx1 hD1)
              obtain ⟨y, hy⟩ : ∃ y, y = roomOne D x hd qs := ⟨_, rfl⟩
              have hyb : -1 ≤ y ∧ y ≤ 100000 := by have := roomOne_le D x hd qs hx; omega
              have HY : Hid (res = To.room D y (ps.drop (i + 1))) := by
                show _ = _
                rw [HR.out, hdr, hy, room_cons _ _ _ _ _ hx]
              rw [← hy] at HC
              unfold tmv at HC
              clear hdr hg hsl ht1 hy hRb hna
              go_wp2_with fail
              refine HC.out.mono ?_; rintro e w1 ⟨rfl, hq1⟩
              have HQ1 := Lib.hid (HQ.out.trans hq1)
              clear hq1
              go_wp2_with fail
              go_roundw
              case rel => exact ⟨i + 1, y, by go_num, rfl, by omega, hyb.1, hyb.2, HY.out, HQ1.out⟩
              case measure => simp [intOf]; omega
            · have hx' : x < 0 := by omega
              have HY : Hid (res = x) := by show _ = _; rw [HR.out]; exact To.room_neg _ _ _ hx'
              go_wp2_with fail
              go_ret
              exact ⟨by rw [HY.out]; rfl, HQ0.out.trans HQ.out⟩
          · have hlt' : ¬ (i : Int) < l2 := by omega
            have HY : Hid (res = x) := by
              show _ = _
              rw [HR.out, To.drop_end ps i (by have := HL.out; omega)]
              unfold To.room; rfl
            go_wp2_with fail
            go_ret
            exact ⟨by rw [HY.out]; rfl, HQ0.out.trans HQ.out⟩
      · have HF : Hid (roomOne d m h ps = -1) := by show _ = _; unfold roomOne bigH; rw [if_neg hd0, hg]; simp
        rw [HF.out]
        rw [hg] at HG
        clear hd0 hD hg h60
        unfold tmv
        go_enter Tryd.func73, Tryd.ntmps73
        go_wp2_with fail
        refine (HG.out _ (Quiet0.alloc _ _)).mono ?_; rintro e w1 ⟨rfl, hq1⟩
        go_wp2_with fail
        go_ret
        exact ⟨rfl, (Quiet0.alloc _ _).trans hq1⟩
/-- Great: is there more than is asked of? -/
def greatTm (h : Nd) (ps : To) : Bool := decide (roomOne 60 200 h ps < 0)
theorem greatTm_no {h : Nd} {ps : To} (e : greatTm h ps = false) : bigH h = false ∧ allT (fun h => bigH h = false) ps ∧ ps.size + 1 ≤ 200 ∧ ps.depth + 1 ≤ 60 := by
  unfold greatTm at e
  have h0 : 0 ≤ roomOne 60 200 h ps := by simpa using e
  unfold roomOne at h0
  rw [if_neg (by omega)] at h0
  cases hb : bigH h
  · rw [hb] at h0
    simp only [Bool.false_eq_true, if_false] at h0
    obtain ⟨h1, h2, h3, h4⟩ := To.room_all ps _ _ h0
    exact ⟨rfl, h4, by omega, by omega⟩
  · rw [hb] at h0; simp at h0
theorem bigH_no {h : Nd} (e : bigH h = false) : h.nm.size ≤ 60 ∧ h.tp.size + 1 ≤ 300 := by
  unfold bigH at e
  rw [Bool.or_eq_false_iff] at e
  exact ⟨by simpa using e.1, great_size e.2⟩
set_option maxHeartbeats 1000000 in
theorem greatTm_any (h : Nd) (ps : To) (w : World) (R : Nat → Prop) (o1 : Option Addr) (l1 c1 : Nat) (o2 : Option Addr) (l2 c2 : Nat) (hs1 : SlcIn R w o1 l1 h.tp) (hs : TSlc R w o2 l2 ps) (hnm : h.nm.size ≤ 9223372036854775807) (hnms : allT (fun h => h.nm.size ≤ 9223372036854775807) ps) :
    Calls Tryd.prog 22 #[tmv h o1 l1 c1 o2 l2 c2] w fun e w' => e = .returned (.bool (greatTm h ps)) ∧ Quiet0 w w' := by
  have HC := Lib.hid (fun (W : World) (hq : Quiet0 w W) => roomT_any h ps W R o1 l1 c1 o2 l2 c2 60 200 60 rfl (hs1.stay hq) (hs.stay hq) hnm hnms (by omega) (by omega) (by omega))
  unfold greatTm
  generalize roomOne 60 200 h ps = r at *
  clear hs1 hs hnm hnms
  unfold tmv at *
  go_enter Tryd.func22, Tryd.ntmps22
  go_wp2_with fail
  refine (HC.out _ (Quiet0.alloc _ _)).mono ?_; rintro e w1 ⟨rfl, hq⟩
  go_wp2_with fail
  go_ret
  exact ⟨rfl, (Quiet0.alloc _ _).trans hq⟩
end Go.Proofs.YtggidhgifaekbaaDoor
