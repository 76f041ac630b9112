/-
  Texts laid together (TeList, TeDepth, TeSame, TeEqualP, TeRightLaw, TeLaid): what each one proves, and its conditions, stands at its head.
-/
import Derived.LaidMore
import Derived.Stop.Joined
import Derived.LaidLaws
import Derived.Lib.LaidTab
import Derived.Stop.LaidErr
import Derived.Test.YtggidhgifaekbaaDoorRows
import Derived.Test.YtggidhgifaekbaaDoorTR1
import Derived.Test.YtggidhgifaekbaaDoorTR2
import Derived.Test.YtggidhgifaekbaaDoorTR3
import Derived.Test.YtggidhgifaekbaaDoorTR4
import Derived.Test.YtggidhgifaekbaaDoorTR5
import Derived.Test.YtggidhgifaekbaaDoorTR6
import Derived.Test.YtggidhgifaekbaaDoorTR7
import Derived.Test.YtggidhgifaekbaaDoorTR8
import Derived.Test.YtggidhgifaekbaaDoorTR9
import Derived.Test.YtggidhgifaekbaaDoorTR10
import Derived.Test.YtggidhgifaekbaaDoorTR11
section
/-
  ref.List of a term: how many there are. Conditions: the term lies in memory as told; there are few parts of it.
-/
namespace Go.Proofs.YtggidhgifaekbaaDoor
open Go.RowKit

/-- a row of terms of the call's own, whatever they are -/
def ListRow (B : Nat) (W : World) (o : Option Addr) (n c : Nat) (xs : List Value) : Prop :=
  W.ownsRow 0 35 9 (.slice o n c) n xs ∧ (∀ u ∈ xs, u.oneCell' = true) ∧ ∀ k, (Value.slice o n c).ownBlock = some k → B ≤ k
theorem ListRow.stay {B : Nat} {W W' : World} {o : Option Addr} {n c : Nat} {xs : List Value} (h : ListRow B W o n c xs) (hq : Quiet0 W W') : ListRow B W' o n c xs :=
  ⟨ownsRow_fr h.1 hq (fun _ _ h => h), h.2⟩
def RListT (h : Nd) (ps : To) : Prop := ∀ (w : World) (R : Nat → Prop) (o1 : Option Addr) (l1 c1 : Nat) (o2 : Option Addr) (l2 c2 : Nat), TSlc R w o2 l2 ps → ps.size ≤ 100000 →
  Calls Tryd.prog 28 #[tmv h o1 l1 c1 o2 l2 c2] w fun e w' => ∃ o c xs, e = .returned (.slice o (ps.size + 1) c) ∧ ListRow w.heap.size w' o (ps.size + 1) c xs ∧ Quiet0 w w'
set_option maxHeartbeats 2000000 in
theorem refListT_any (h : Nd) (ps : To) : RListT h ps := by
  refine To.ind' (T := RListT) ?_ h ps
  intro h ps ih w R o1 l1 c1 o2 l2 c2 hs hsz
  have HS := Lib.hid hs
  have IH := Lib.hid ih
  have hl := hs.1
  have hll := To.length_le ps
  rw [← hl] at hll
  have HL := Lib.hid hl
  clear hs ih hl
  unfold tmv
  go_enter Tryd.func28, Tryd.ntmps28
  go_wp2_with fail
  obtain ⟨W0, hW0⟩ : ∃ W0, W0 = w.alloc (.cells (cells9 h o1 l1 c1 o2 l2 c2) 35) := ⟨_, rfl⟩
  have HB : Hid (∀ W, Quiet0 W0 W → W.cell? ⟨w.heap.size, 6, none⟩ = some (.slice o2 l2 c2)) := by
    intro W hq; rw [hW0] at hq; exact (box9 w h o1 l1 c1 o2 l2 c2 _ W hq).2.2.2.2.2.2.1
  have HQ0 : Hid (Quiet0 w W0) := by rw [hW0]; exact Quiet0.alloc _ _
  have hz0 : W0.heap.size = w.heap.size + 1 := by rw [hW0]; simp
  obtain ⟨W1, hW1⟩ : ∃ W1, W1 = W0.alloc (.cells (cells9 h o1 l1 c1 o2 l2 c2) 35) := ⟨_, rfl⟩
  have hnew := heap_alloc_new W0 (.cells (cells9 h o1 l1 c1 o2 l2 c2) 35)
  rw [← hW1, hz0] at hnew
  have HQ1 : Hid (Quiet0 W0 W1) := by rw [hW1]; exact Quiet0.alloc _ _
  have HROW : Hid (ListRow (w.heap.size + 1) W1 (some ⟨w.heap.size + 1, 0, none⟩) 1 1 (cells9 h o1 l1 c1 o2 l2 c2).toList) := by
    refine ⟨⟨rfl, .inr ⟨w.heap.size + 1, 1, cells9 h o1 l1 c1 o2 l2 c2, rfl, Nat.zero_le _, hnew, Nat.le_refl _, by decide, rfl, rfl⟩⟩, ?_, ?_⟩
    · simp [Value.oneCell']
    · intro k hk
      simp [Value.ownBlock] at hk
      omega
  change Code.wp _ _ _ _ ((w.alloc (.cells (cells9 h o1 l1 c1 o2 l2 c2) 35)).alloc (.cells (cells9 h o1 l1 c1 o2 l2 c2) 35))
  rw [← hW0, ← hW1]
  clear hW0 hW1 hnew
  have HZ := Lib.hid hz0
  clear hz0
  generalize hnb : w.heap.size = nb at *
  have HNB := Lib.hid hnb
  clear hnb
  go_loopw [3, 4] (fun s t wr => ∃ (i n c : Nat) (o : Option Addr) (xs : List Value), t = .int .i64 i ∧ s = .slice o n c ∧ i ≤ l2 ∧ n + (ps.drop i).size = ps.size + 1 ∧ ListRow (nb + 1) wr o n c xs ∧ Quiet0 W0 wr) (fun _ t _ => l2 - (intOf t).toNat)
  case atStart => exact ⟨0, 1, 1, _, _, rfl, rfl, Nat.zero_le _, by rw [To.drop_zero]; omega, HROW.out, HQ1.out⟩
  case round =>
    obtain ⟨i, n, c, o, xs, rfl, rfl, hi, hn, hrow, hq⟩ := hrel
    have HN := Lib.hid hn
    have HR := Lib.hid hrow
    have HQ := Lib.hid hq
    have cc := HB.out wr hq
    have hnb : n ≤ 100001 := by omega
    clear hn hrow hq
    by_cases hlt : i < l2
    · have hlt' : (i : Int) < l2 := by omega
      obtain ⟨b, off, hd, qs, p1, m1, d1, p2, m2, d2, rfl, hd1, hg, hRb, ⟨e0, e1, e2, e3, e4, e5, e6, e7, e8⟩, hs1, ht1⟩ := (HS.out.stay (HQ0.out.trans HQ.out)).nth hlt
      have hsq := To.size_get ps i hd qs hg
      have HC := Lib.hid (IH.out i hd qs hg wr R p1 m1 d1 p2 m2 d2 ht1 (by omega))
      have HD : Hid (n + (qs.size + 1) + (ps.drop (i + 1)).size = ps.size + 1) := by
        have := HN.out; rw [hd1] at this; simp only [To.size] at this; show _ = _; omega
      have hqz : qs.size + 1 ≤ 100001 := by omega
      unfold tmv at HC
      clear hd1 hg hs1 ht1 hsq hRb
      go_wp2_with fail
      refine HC.out.mono ?_; rintro e w1 ⟨q, d, ys, rfl, hrow1, hq1⟩
      have HQ1' := Lib.hid (HQ.out.trans hq1)
      have HR1 := Lib.hid (HR.out.stay hq1)
      have HR2 := Lib.hid hrow1
      have HBZ : Hid (nb + 1 ≤ w1.heap.size) := by have := HQ1'.out.size; have := HZ.out; show _ ≤ _; omega
      have HNW : Hid (∀ j u, ys[j]? = some u → ∃ a, q = some a ∧ w1.cell? (a.add j) = some u) := by
        intro j u hu
        rcases hrow1.1.2 with ⟨_, h2⟩ | ⟨g, cap', cur, he, _⟩
        · omega
        · injection he with h1 h2 h3
          subst h1
          exact ⟨_, rfl, hrow1.1.cells rfl j u hu⟩
      clear hq1 hrow1 cc
      go_wp2_with (at_builtin; (refine wpList_append_row w1 rfl (.tmp 14) (.tmp 20) 31 rfl 35 _ 9 112 elemTm (.slice o n c) n xs rfl HR1.out.1 q (qs.size + 1) d ys rfl HR2.out.1.1 HNW.out HR2.out.2.1 (by unfold maxLen; omega) (by omega) ?_); intro o3 c3 w3 ho hf hob hnil)
      have HR3 : Hid (ListRow (nb + 1) w3 o3 (n + (qs.size + 1)) c3 (xs ++ ys)) := by
        refine ⟨ho, ?_, ?_⟩
        · intro u hu
          rcases List.mem_append.1 hu with h | h
          · exact HR1.out.2.1 u h
          · exact HR2.out.2.1 u h
        · intro k hk
          rcases hob with h | h
          · exact HR1.out.2.2 k (by rw [← h]; exact hk)
          · rw [h] at hk; cases hk; exact HBZ.out
      have HQ3 : Hid (Quiet0 W0 w3) := Fr.trans' HQ1'.out hf (fun k hk hs => by have := HR1.out.2.2 k hs; have := HZ.out; omega)
      clear ho hf hob hnil
      go_wp2_with fail
      go_roundw
      case rel => exact ⟨i + 1, n + (qs.size + 1), c3, o3, xs ++ ys, by go_num, rfl, by omega, HD.out, HR3.out, HQ3.out⟩
      case measure => simp [intOf]; omega
    · have hlt' : ¬ (i : Int) < l2 := by omega
      have HE : Hid (n = ps.size + 1) := by
        have := HN.out
        rw [To.drop_end ps i (by have := HL.out; omega)] at this
        show _ = _
        simpa [To.size] using this
      go_wp2_with fail
      go_ret
      rw [HNB.out, ← HE.out]
      exact ⟨o, c, rfl, ⟨xs, HR.out.1, HR.out.2.1, fun k hk => by have := HR.out.2.2 k hk; omega⟩, HQ0.out.trans HQ.out⟩
end Go.Proofs.YtggidhgifaekbaaDoor
end
section
/-
  term.Depth. Conditions: the term lies in memory as told; there are few parts of it.
-/
namespace Go.Proofs.YtggidhgifaekbaaDoor
open Go.RowKit

def DepthT (h : Nd) (ps : To) : Prop := ∀ (w : World) (R : Nat → Prop) (o1 : Option Addr) (l1 c1 : Nat) (o2 : Option Addr) (l2 c2 : Nat), TSlc R w o2 l2 ps → ps.size ≤ 1000000 →
  Calls Tryd.prog 29 #[tmv h o1 l1 c1 o2 l2 c2] w fun e w' => e = .returned (.int .i64 ((ps.depth + 1 : Nat) : Int)) ∧ Quiet0 w w'
set_option maxHeartbeats 1000000 in
theorem depthTm_any (h : Nd) (ps : To) : DepthT h ps := by
  refine To.ind' (T := DepthT) ?_ h ps
  intro h ps ih w R o1 l1 c1 o2 l2 c2 hs hsz
  have HS := Lib.hid hs
  have IH := Lib.hid ih
  have hl := hs.1
  have hll := To.length_le ps
  rw [← hl] at hll
  have HL := Lib.hid hl
  have hdp := To.depth_le ps
  clear hs ih hl
  unfold tmv
  go_enter Tryd.func29, Tryd.ntmps29
  go_wp2_with fail
  obtain ⟨W0, hW0⟩ : ∃ W0, W0 = w.alloc (.cells (cells9 h o1 l1 c1 o2 l2 c2) 35) := ⟨_, rfl⟩
  have HB : Hid (∀ W, Quiet0 W0 W → W.cell? ⟨w.heap.size, 6, none⟩ = some (.slice o2 l2 c2)) := by
    intro W hq; rw [hW0] at hq; exact (box9 w h o1 l1 c1 o2 l2 c2 _ W hq).2.2.2.2.2.2.1
  have HQ0 : Hid (Quiet0 w W0) := by rw [hW0]; exact Quiet0.alloc _ _
  change Code.wp _ _ _ _ (w.alloc (.cells (cells9 h o1 l1 c1 o2 l2 c2) 35))
  rw [← hW0]
  clear hW0
  generalize w.heap.size = nb at *
  have c6 := HB.out W0 (Quiet0.refl _)
  go_wp2_with fail
  clear c6
  go_loopw [3, 9] (fun s t wr => ∃ (i m : Nat), t = .int .i64 i ∧ s = .int .i64 m ∧ i ≤ l2 ∧ max m (ps.drop i).depth = ps.depth ∧ Quiet0 W0 wr) (fun _ t _ => l2 - (intOf t).toNat)
  case atStart => exact ⟨0, 0, rfl, rfl, Nat.zero_le _, by rw [To.drop_zero]; omega, Quiet0.refl _⟩
  case round =>
    obtain ⟨i, m, rfl, rfl, hi, hm, hq⟩ := hrel
    have HM := Lib.hid hm
    have HQ := Lib.hid hq
    have hmb : m ≤ 1000001 := by omega
    clear hm hq
    by_cases hlt : i < l2
    · have hlt' : (i : Int) < l2 := by omega
      obtain ⟨b, off, hd, qs, p1, m1, d1, p2, m2, d2, rfl, hd1, hg, hRb, ⟨e0, e1, e2, e3, e4, e5, e6, e7, e8⟩, hs1, ht1⟩ := (HS.out.stay (HQ0.out.trans HQ.out)).nth hlt
      have hsq := To.size_get ps i hd qs hg
      have hqd := To.depth_le qs
      have hqs : qs.depth ≤ 1000001 := by omega
      have HC := Lib.hid (IH.out i hd qs hg (wr.alloc (.cells (cells9 hd p1 m1 d1 p2 m2 d2) 35)) R p1 m1 d1 p2 m2 d2 (ht1.stay (Quiet0.alloc _ _)) (by omega))
      have HD : Hid (max (max m (qs.depth + 1)) (ps.drop (i + 1)).depth = ps.depth) := by
        have := HM.out; rw [hd1] at this; simp only [To.depth] at this; show _ = _; omega
      unfold tmv at HC
      clear hd1 hg hs1 ht1 hsq hqd hRb
      go_wp2_with fail
      refine HC.out.mono ?_; rintro e w1 ⟨rfl, hq1⟩
      have HQ1 := Lib.hid ((HQ.out.trans (Quiet0.alloc _ _)).trans hq1)
      clear hq1
      by_cases hgt : m < qs.depth + 1
      · have hgt' : (m : Int) < (qs.depth : Int) + 1 := by omega
        go_wp2_with fail
        go_roundw
        case rel => exact ⟨i + 1, qs.depth + 1, by go_num, by first | rfl | go_num | (simp; omega), by omega, by have := HD.out; omega, HQ1.out⟩
        case measure => simp [intOf]; omega
      · have hgt' : ¬ (m : Int) < (qs.depth : Int) + 1 := by omega
        go_wp2_with fail
        go_roundw
        case rel => exact ⟨i + 1, m, by go_num, by first | rfl | go_num | (simp; omega), by omega, by have := HD.out; omega, HQ1.out⟩
        case measure => simp [intOf]; omega
    · have hlt' : ¬ (i : Int) < l2 := by omega
      go_wp2_with fail
      go_ret
      refine ⟨ret_int (a := ((m : Nat) : Int) + 1) ?_, HQ0.out.trans HQ.out⟩
      have := HM.out
      rw [To.drop_end ps i (by have := HL.out; omega)] at this
      simp only [To.depth] at this
      omega
end Go.Proofs.YtggidhgifaekbaaDoor
end
section
/-
  The program's Same and Equal on terms, with slices.EqualFunc. Condition: the terms lie in memory as told.
-/
namespace Go.Proofs.YtggidhgifaekbaaDoor
open Go.RowKit Go.Shelf

def PSameT (all : Bool) (g : Nat) (a : Nd) (p : To) : Prop := ∀ (b : Nd) (q : To) (w : World) (o1 : Option Addr) (l1 c1 : Nat) (o2 : Option Addr) (l2 c2 : Nat) (p1 : Option Addr) (m1 d1 : Nat) (p2 : Option Addr) (m2 d2 : Nat) (R : Nat → Prop),
  SlcIn R w o1 l1 a.tp → TSlc R w o2 l2 p → SlcIn R w p1 m1 b.tp → TSlc R w p2 m2 q →
  Calls Tryd.prog g #[tmv a o1 l1 c1 o2 l2 c2, tmv b p1 m1 d1 p2 m2 d2] w fun e w' => e = .returned (.bool (alikeT all a p b q)) ∧ Quiet0 w w'
set_option maxRecDepth 100000 in
set_option maxHeartbeats 2000000 in
theorem equalFuncT_any (all : Bool) (g : Nat) (eg : ∀ args w, (callFunc g args).run Tryd.prog w = .ok (.enter g args) w) (ps ps' : To) (ih : ∀ i h qs, ps.get i = some (h, qs) → PSameT all g h qs) (w : World) (R : Nat → Prop) (o : Option Addr) (len cap : Nat) (o' : Option Addr) (len' cap' : Nat) (hs : TSlc R w o len ps) (hs' : TSlc R w o' len' ps') :
    Calls Tryd.prog 78 #[.slice o len cap, .slice o' len' cap', .func (.func g) #[] #[]] w fun e w' => e = .returned (.bool (ps.alike (headB all) ps')) ∧ Quiet0 w w' := by
  have HS := Lib.hid hs
  have HS' := Lib.hid hs'
  have IH := Lib.hid ih
  have HL := Lib.hid hs.1
  have HL' := Lib.hid hs'.1
  have hmx := hs.2.1
  unfold maxLen at hmx
  clear hs hs' ih
  obtain ⟨res, hres⟩ : ∃ res, res = ps.alike (headB all) ps' := ⟨_, rfl⟩
  have HRES := Lib.hid hres
  rw [← hres]
  clear hres
  by_cases hlen : len = len'
  · subst hlen
    have b3 : ((len : Int) != (len : Int)) = false := by simp
    go_enter Tryd.func78, Tryd.ntmps78
    go_wp2_with fail
    go_loopw [17] (fun t wr => ∃ (i : Nat), t = .int .i64 i ∧ i ≤ len ∧ res = (ps.drop i).alike (headB all) (ps'.drop i) ∧ Quiet0 w wr) (fun t _ => len - (intOf t).toNat)
    case atStart => exact ⟨0, rfl, Nat.zero_le _, by rw [To.drop_zero, To.drop_zero]; exact HRES.out, Quiet0.refl _⟩
    case round =>
      obtain ⟨i, rfl, hi, hr, hq⟩ := hrel
      have HR := Lib.hid hr
      have HQ := Lib.hid hq
      clear hr hq
      by_cases hlt : i < len
      · have hlt' : (i : Int) < len := by omega
        obtain ⟨b, off, h1, qs1, o1, l1, c1, o2, l2, c2, rfl, hd1, hg1, hR1, ⟨e0, e1, e2, e3, e4, e5, e6, e7, e8⟩, hs1, ht1⟩ := (HS.out.stay HQ.out).nth hlt
        obtain ⟨b2, off2, h2, qs2, p1, m1, d1, p2, m2, d2, rfl, hd2, hg2, hR2, ⟨f0, f1, f2, f3, f4, f5, f6, f7, f8⟩, hs2, ht2⟩ := (HS'.out.stay HQ.out).nth hlt
        have hbl := World.block_lt_of_cell? _ _ e0
        have hbl2 := World.block_lt_of_cell? _ _ f0
        have HC := Lib.hid (fun (W : World) (hq : Quiet0 wr W) => IH.out i h1 qs1 hg1 h2 qs2 W o1 l1 c1 o2 l2 c2 p1 m1 d1 p2 m2 d2 R (hs1.stay hq) (ht1.stay hq) (hs2.stay hq) (ht2.stay hq))
        have HN : Hid (res = (alikeT all h1 qs1 h2 qs2 && (ps.drop (i + 1)).alike (headB all) (ps'.drop (i + 1)))) := by
          show _ = _
          rw [HR.out, hd1, hd2, alike_cons]
        unfold tmv at HC
        clear hd1 hg1 hs1 ht1 hd2 hg2 hs2 ht2
        cases hb : alikeT all h1 qs1 h2 qs2
        all_goals
          have HBV := Lib.hid hb
          rw [hb] at HC
          clear hb
          go_wp2_with fail
          refine (HC.out _ ((Quiet0.alloc _ _).trans (Quiet0.alloc _ _))).mono ?_; rintro e w1 ⟨rfl, hq1⟩
          have HQ1 := Lib.hid (HQ.out.trans (((Quiet0.alloc _ _).trans (Quiet0.alloc _ _)).trans hq1))
          clear hq1
          go_wp2_with fail
        · go_ret
          exact ⟨by rw [HN.out, HBV.out]; rfl, HQ1.out⟩
        · go_roundw
          case rel => exact ⟨i + 1, by go_num, by omega, by rw [HN.out, HBV.out]; rfl, HQ1.out⟩
          case measure => simp [intOf]; omega
      · have hlt' : ¬ (i : Int) < len := by omega
        have HY : Hid (res = true) := by
          show _ = _
          rw [HR.out, To.drop_end ps i (by have := HL.out; omega), To.drop_end ps' i (by have := HL'.out; omega)]; rfl
        go_wp2_with fail
        go_ret
        exact ⟨by rw [HY.out]; rfl, HQ.out⟩
  · have HF : Hid (res = false) := by
      show _ = _
      rw [HRES.out]
      cases h : ps.alike (headB all) ps'
      · rfl
      · exact absurd (To.alike_length _ _ _ h) (by have := HL.out; have := HL'.out; omega)
    have b3 : ((len : Int) != (len' : Int)) = true := by simp; omega
    go_enter Tryd.func78, Tryd.ntmps78
    go_wp2_with fail
    go_ret
    exact ⟨by rw [HF.out]; rfl, Quiet0.refl _⟩
theorem eg_sameT : ∀ args w, (callFunc 31 args).run Tryd.prog w = .ok (.enter 31 args) w := enters_of Tryd.func31 (by kernel_rfl) rfl
theorem eg_equalT : ∀ args w, (callFunc 33 args).run Tryd.prog w = .ok (.enter 33 args) w := enters_of Tryd.func33 (by kernel_rfl) rfl
set_option maxRecDepth 100000 in
set_option maxHeartbeats 4000000 in
theorem sameTm_any (a : Nd) (p : To) : PSameT false 31 a p := by
  refine To.ind' (T := PSameT false 31) ?_ a p
  intro a p ih b q w o1 l1 c1 o2 l2 c2 p1 m1 d1 p2 m2 d2 R h1 h2 h3 h4
  have HC := Lib.hid (fun (W : World) (hq : Quiet0 w W) => same_any a.tk a.tn a.tp b.tk b.tn b.tp W o1 l1 c1 p1 m1 d1 (h1.slc.stay hq) (h3.slc.stay hq))
  have HE := Lib.hid (fun (W : World) (hq : Quiet0 w W) => equalFuncT_any false 31 eg_sameT p q ih W R o2 l2 c2 p2 m2 d2 (h2.stay hq) (h4.stay hq))
  clear h1 h2 h3 h4 ih
  unfold alikeT
  generalize p.alike (headB false) q = r at *
  unfold headB
  unfold tyv at HC
  generalize sameT a.tk a.tn a.tp b.tk b.tn b.tp = sb at *
  obtain ⟨ak, an, aN, atk, atn, atp, af, ae⟩ := a
  obtain ⟨bk, bn, bN, btk, btn, btp, bf, be⟩ := b
  dsimp only at *
  unfold tmv
  dsimp only
  cases hk : (ak == bk)
  · go_enter Tryd.func31, Tryd.ntmps31
    go_wp2_with fail
    go_ret
    exact ⟨rfl, (Quiet0.alloc _ _).trans (Quiet0.alloc _ _)⟩
  · cases hn : (an.toList == bn.toList)
    · go_enter Tryd.func31, Tryd.ntmps31
      go_wp2_with fail
      go_ret
      exact ⟨rfl, (Quiet0.alloc _ _).trans (Quiet0.alloc _ _)⟩
    · cases hN : (aN == bN)
      · cases hk1 : (ak == 1)
        · go_enter Tryd.func31, Tryd.ntmps31
          go_wp2_with fail
          go_ret
          exact ⟨rfl, (Quiet0.alloc _ _).trans (Quiet0.alloc _ _)⟩
        · cases sb
          · go_enter Tryd.func31, Tryd.ntmps31
            go_wp2_with fail
            refine (HC.out _ ((Quiet0.alloc _ _).trans (Quiet0.alloc _ _))).mono ?_; rintro e w1 ⟨rfl, hq1⟩
            go_wp2_with fail
            go_ret
            exact ⟨by simp, ((Quiet0.alloc _ _).trans (Quiet0.alloc _ _)).trans hq1⟩
          · go_enter Tryd.func31, Tryd.ntmps31
            go_wp2_with fail
            refine (HC.out _ ((Quiet0.alloc _ _).trans (Quiet0.alloc _ _))).mono ?_; rintro e w1 ⟨rfl, hq1⟩
            obtain ⟨⟨a0, a1, a2, a3, a4, a5, a6, a7, a8⟩, b0, b1, b2, b3, b4, b5, b6, b7, b8⟩ := box92 w ⟨ak, an, aN, atk, atn, atp, af, ae⟩ o1 l1 c1 o2 l2 c2 ⟨bk, bn, bN, btk, btn, btp, bf, be⟩ p1 m1 d1 p2 m2 d2 _ _ hq1
            have HQ1 := Lib.hid (((Quiet0.alloc _ _).trans (Quiet0.alloc _ _)).trans hq1)
            clear hq1
            dsimp only at *
            go_wp2_with fail
            refine (HE.out _ HQ1.out).mono ?_; rintro e w2 ⟨rfl, hq2⟩
            go_wp2_with fail
            go_ret
            exact ⟨by simp, HQ1.out.trans hq2⟩
      · cases sb
        · go_enter Tryd.func31, Tryd.ntmps31
          go_wp2_with fail
          refine (HC.out _ ((Quiet0.alloc _ _).trans (Quiet0.alloc _ _))).mono ?_; rintro e w1 ⟨rfl, hq1⟩
          go_wp2_with fail
          go_ret
          exact ⟨by simp, ((Quiet0.alloc _ _).trans (Quiet0.alloc _ _)).trans hq1⟩
        · go_enter Tryd.func31, Tryd.ntmps31
          go_wp2_with fail
          refine (HC.out _ ((Quiet0.alloc _ _).trans (Quiet0.alloc _ _))).mono ?_; rintro e w1 ⟨rfl, hq1⟩
          obtain ⟨⟨a0, a1, a2, a3, a4, a5, a6, a7, a8⟩, b0, b1, b2, b3, b4, b5, b6, b7, b8⟩ := box92 w ⟨ak, an, aN, atk, atn, atp, af, ae⟩ o1 l1 c1 o2 l2 c2 ⟨bk, bn, bN, btk, btn, btp, bf, be⟩ p1 m1 d1 p2 m2 d2 _ _ hq1
          have HQ1 := Lib.hid (((Quiet0.alloc _ _).trans (Quiet0.alloc _ _)).trans hq1)
          clear hq1
          dsimp only at *
          go_wp2_with fail
          refine (HE.out _ HQ1.out).mono ?_; rintro e w2 ⟨rfl, hq2⟩
          go_wp2_with fail
          go_ret
          exact ⟨by simp, HQ1.out.trans hq2⟩
end Go.Proofs.YtggidhgifaekbaaDoor
end
section
/-
  The program's Equal on terms. Condition: the terms lie in memory as told.
-/
namespace Go.Proofs.YtggidhgifaekbaaDoor
open Go.RowKit Go.Shelf

set_option maxRecDepth 100000 in
set_option maxHeartbeats 4000000 in
theorem equalTm_any (a : Nd) (p : To) : PSameT true 33 a p := by
  refine To.ind' (T := PSameT true 33) ?_ a p
  intro a p ih b q w o1 l1 c1 o2 l2 c2 p1 m1 d1 p2 m2 d2 R h1 h2 h3 h4
  have HC := Lib.hid (fun (W : World) (hq : Quiet0 w W) => same_any a.tk a.tn a.tp b.tk b.tn b.tp W o1 l1 c1 p1 m1 d1 (h1.slc.stay hq) (h3.slc.stay hq))
  have HE := Lib.hid (fun (W : World) (hq : Quiet0 w W) => equalFuncT_any true 33 eg_equalT p q ih W R o2 l2 c2 p2 m2 d2 (h2.stay hq) (h4.stay hq))
  clear h1 h2 h3 h4 ih
  unfold alikeT
  generalize p.alike (headB true) q = r at *
  unfold headB
  unfold tyv at HC
  generalize sameT a.tk a.tn a.tp b.tk b.tn b.tp = sb at *
  obtain ⟨ak, an, aN, atk, atn, atp, af, ae⟩ := a
  obtain ⟨bk, bn, bN, btk, btn, btp, bf, be⟩ := b
  dsimp only at *
  unfold tmv
  dsimp only
  cases hk : (ak == bk)
  · go_enter Tryd.func33, Tryd.ntmps33
    go_wp2_with fail
    go_ret
    exact ⟨rfl, ((Quiet0.alloc _ _).trans (Quiet0.alloc _ _))⟩
  · cases hn : (an.toList == bn.toList)
    · go_enter Tryd.func33, Tryd.ntmps33
      go_wp2_with fail
      go_ret
      exact ⟨rfl, ((Quiet0.alloc _ _).trans (Quiet0.alloc _ _))⟩
    · cases hN : (aN == bN)
      · go_enter Tryd.func33, Tryd.ntmps33
        go_wp2_with fail
        go_ret
        exact ⟨rfl, ((Quiet0.alloc _ _).trans (Quiet0.alloc _ _))⟩
      · cases hf : (af == bf)
        · go_enter Tryd.func33, Tryd.ntmps33
          go_wp2_with fail
          go_ret
          exact ⟨rfl, ((Quiet0.alloc _ _).trans (Quiet0.alloc _ _))⟩
        · cases he : (ae == be)
          · go_enter Tryd.func33, Tryd.ntmps33
            go_wp2_with fail
            go_ret
            exact ⟨rfl, ((Quiet0.alloc _ _).trans (Quiet0.alloc _ _))⟩
          · cases sb
            · go_enter Tryd.func33, Tryd.ntmps33
              go_wp2_with fail
              refine (HC.out _ ((Quiet0.alloc _ _).trans (Quiet0.alloc _ _))).mono ?_; rintro e w1 ⟨rfl, hq1⟩
              go_wp2_with fail
              go_ret
              exact ⟨by simp, ((Quiet0.alloc _ _).trans (Quiet0.alloc _ _)).trans hq1⟩
            · go_enter Tryd.func33, Tryd.ntmps33
              go_wp2_with fail
              refine (HC.out _ ((Quiet0.alloc _ _).trans (Quiet0.alloc _ _))).mono ?_; rintro e w1 ⟨rfl, hq1⟩
              obtain ⟨⟨a0, a1, a2, a3, a4, a5, a6, a7, a8⟩, b0, b1, b2, b3, b4, b5, b6, b7, b8⟩ := box92 w ⟨ak, an, aN, atk, atn, atp, af, ae⟩ o1 l1 c1 o2 l2 c2 ⟨bk, bn, bN, btk, btn, btp, bf, be⟩ p1 m1 d1 p2 m2 d2 _ _ hq1
              have HQ1 := Lib.hid (((Quiet0.alloc _ _).trans (Quiet0.alloc _ _)).trans hq1)
              clear hq1
              dsimp only at *
              go_wp2_with fail
              refine (HE.out _ HQ1.out).mono ?_; rintro e w2 ⟨rfl, hq2⟩
              go_wp2_with fail
              go_ret
              exact ⟨by simp, HQ1.out.trans hq2⟩
end Go.Proofs.YtggidhgifaekbaaDoor
end
section
/-
  The law TermRight: it returns true. Conditions: the terms lie in memory as told; the table of blanks holds what its initialiser lays.
-/
namespace Go.Proofs.YtggidhgifaekbaaDoor
open Go.RowKit Go.Shelf

theorem allT_and {G H : Nd → Prop} : ∀ f : To, allT G f → allT H f → allT (fun h => G h ∧ H h) f
  | .nil, _, _ => trivial
  | .cons _ ps r, e, e' => ⟨⟨e.1, e'.1⟩, allT_and ps e.2.1 e'.2.1, allT_and r e.2.2 e'.2.2⟩
set_option maxHeartbeats 1000000 in
theorem refSameT2_any (a : Nd) (p : To) (b : Nd) (q : To) (w : World) (R : Nat → Prop) (o1 : Option Addr) (l1 c1 : Nat) (o2 : Option Addr) (l2 c2 : Nat) (p1 : Option Addr) (m1 d1 : Nat) (p2 : Option Addr) (m2 d2 : Nat)
    (h1 : SlcIn R w o1 l1 a.tp) (h2 : TSlc R w o2 l2 p) (h3 : SlcIn R w p1 m1 b.tp) (h4 : TSlc R w p2 m2 q) :
    Calls Tryd.prog 32 #[tmv a o1 l1 c1 o2 l2 c2, tmv b p1 m1 d1 p2 m2 d2] w fun e w' => e = .returned (.bool (alikeT false a p b q)) ∧ Quiet0 w w' := by
  have HC := Lib.hid (fun (W : World) (hq : Quiet0 w W) => refSameT_any false a p b q W o1 l1 c1 o2 l2 c2 p1 m1 d1 p2 m2 d2 R (h1.stay hq) (h2.stay hq) (h3.stay hq) (h4.stay hq))
  generalize alikeT false a p b q = r at *
  clear h1 h2 h3 h4
  unfold tmv at *
  go_enter Tryd.func32, Tryd.ntmps32
  go_wp2_with fail
  refine (HC.out _ ((Quiet0.alloc _ _).trans (Quiet0.alloc _ _))).mono ?_; rintro e w1 ⟨rfl, hq⟩
  go_wp2_with fail
  go_ret
  exact ⟨rfl, ((Quiet0.alloc _ _).trans (Quiet0.alloc _ _)).trans hq⟩
set_option maxHeartbeats 8000000 in
set_option maxRecDepth 100000 in
theorem termRight_all (a b : Nd) (p q : To) (w : World) (o1 : Option Addr) (l1 c1 : Nat) (o2 : Option Addr) (l2 c2 : Nat) (p1 : Option Addr) (m1 d1 : Nat) (p2 : Option Addr) (m2 d2 : Nat)
    (h1 : SlcIn (Low w) w o1 l1 a.tp) (h2 : TSlc (Low w) w o2 l2 p) (hoa : OkO a) (hop : allT OkO p) (h3 : SlcIn (Low w) w p1 m1 b.tp) (h4 : TSlc (Low w) w p2 m2 q) (hob : OkO b) (hoq : allT OkO q) (ht : Lx.Spaces w) :
    Calls Tryd.prog 6 #[tmv a o1 l1 c1 o2 l2 c2, tmv b p1 m1 d1 p2 m2 d2] w fun e w' => e = .returned (.bool true) ∧ Quiet0 w w' := by
  obtain ⟨W0, hW0⟩ : ∃ W0, W0 = (w.alloc (.cells (cells9 a o1 l1 c1 o2 l2 c2) 35)).alloc (.cells (cells9 b p1 m1 d1 p2 m2 d2) 35) := ⟨_, rfl⟩
  have hq0 : Quiet0 w W0 := by rw [hW0]; exact (Quiet0.alloc _ _).trans (Quiet0.alloc _ _)
  have HQ0 := Lib.hid hq0
  have hmx : ∀ h : Nd, OkO h → h.nm.size ≤ 9223372036854775807 := fun h hh => by have := hh.1; unfold maxLen at this; omega
  have HA : Hid (∀ W, Quiet0 W0 W → Calls Tryd.prog 21 #[] W fun e w' => e = .returned (.bool true) ∧ Quiet0 W w') := fun W hq => awakeT_any W (ht.stay (hq0.trans hq))
  have HG1 : Hid (∀ W, Quiet0 W0 W → Calls Tryd.prog 22 #[.agg #[.int .i64 a.k, .string a.nm, .int .i64 a.n, .int .i64 a.tk, .int .i64 a.tn, .slice o1 l1 c1, .slice o2 l2 c2, .int .i64 a.fr, .int .i64 a.en]] W fun e w' => e = .returned (.bool (greatTm a p)) ∧ Quiet0 W w') := fun W hq => greatTm_any a p W (Low w) o1 l1 c1 o2 l2 c2 (h1.stay (hq0.trans hq)) (h2.stay (hq0.trans hq)) (hmx _ hoa) (allT_mono hmx _ hop)
  have HG2 : Hid (∀ W, Quiet0 W0 W → Calls Tryd.prog 22 #[.agg #[.int .i64 b.k, .string b.nm, .int .i64 b.n, .int .i64 b.tk, .int .i64 b.tn, .slice p1 m1 d1, .slice p2 m2 d2, .int .i64 b.fr, .int .i64 b.en]] W fun e w' => e = .returned (.bool (greatTm b q)) ∧ Quiet0 W w') := fun W hq => greatTm_any b q W (Low w) p1 m1 d1 p2 m2 d2 (h3.stay (hq0.trans hq)) (h4.stay (hq0.trans hq)) (hmx _ hob) (allT_mono hmx _ hoq)
  have HBC : Hid (∀ W, Quiet0 W0 W → (W.cell? ⟨w.heap.size, 0, none⟩ = some (.int .i64 a.k) ∧ W.cell? ⟨w.heap.size, 1, none⟩ = some (.string a.nm) ∧ W.cell? ⟨w.heap.size, 2, none⟩ = some (.int .i64 a.n) ∧ W.cell? ⟨w.heap.size, 3, none⟩ = some (.int .i64 a.tk) ∧ W.cell? ⟨w.heap.size, 4, none⟩ = some (.int .i64 a.tn) ∧ W.cell? ⟨w.heap.size, 5, none⟩ = some (.slice o1 l1 c1) ∧ W.cell? ⟨w.heap.size, 6, none⟩ = some (.slice o2 l2 c2) ∧ W.cell? ⟨w.heap.size, 7, none⟩ = some (.int .i64 a.fr) ∧ W.cell? ⟨w.heap.size, 8, none⟩ = some (.int .i64 a.en)) ∧ W.cell? ⟨w.heap.size + 1, 0, none⟩ = some (.int .i64 b.k) ∧ W.cell? ⟨w.heap.size + 1, 1, none⟩ = some (.string b.nm) ∧ W.cell? ⟨w.heap.size + 1, 2, none⟩ = some (.int .i64 b.n) ∧ W.cell? ⟨w.heap.size + 1, 3, none⟩ = some (.int .i64 b.tk) ∧ W.cell? ⟨w.heap.size + 1, 4, none⟩ = some (.int .i64 b.tn) ∧ W.cell? ⟨w.heap.size + 1, 5, none⟩ = some (.slice p1 m1 d1) ∧ W.cell? ⟨w.heap.size + 1, 6, none⟩ = some (.slice p2 m2 d2) ∧ W.cell? ⟨w.heap.size + 1, 7, none⟩ = some (.int .i64 b.fr) ∧ W.cell? ⟨w.heap.size + 1, 8, none⟩ = some (.int .i64 b.en)) := fun W hq => box92 w a o1 l1 c1 o2 l2 c2 b p1 m1 d1 p2 m2 d2 35 W (by rw [hW0] at hq; exact hq)
  cases hg1 : greatTm a p
  · rw [hg1] at HG1
    cases hg2 : greatTm b q
    · rw [hg2] at HG2
      have ga := greatTm_no hg1
      have ba := bigH_no ga.1
      have hpz : p.size ≤ 199 := by omega
      have hall := allT_and p hop (allT_mono (fun h hh => bigH_no hh) _ ga.2.1)
      have gH : allT GoodH (.cons a p .nil) := ⟨⟨by omega, by omega, hoa.2.1, hoa.2.2.1⟩, allT_mono (fun h hh => ⟨by have := hh.2.1; omega, by have := hh.2.2; omega, hh.1.2.1, hh.1.2.2.1⟩) _ hall, trivial⟩
      have gR : allT GoodR p := allT_mono (fun h hh => ⟨by have := hh.2.1; omega, by have := hh.2.2; omega, hh.1.2.2.2⟩) _ hall
      have gC : allT (fun h => h.tp.size ≤ 1000000) p := allT_mono (fun h hh => by have := hh.2.2; omega) _ hall
      obtain ⟨AA, hAA⟩ : ∃ AA, AA = allS (.cons a p .nil) := ⟨_, rfl⟩
      obtain ⟨BB, hBB⟩ : ∃ BB, BB = alikeT false a p b q := ⟨_, rfl⟩
      obtain ⟨CC, hCC⟩ : ∃ CC, CC = alikeT true a p b q := ⟨_, rfl⟩
      have eA : (AA == AA) = true := by simp
      have eB : (BB == BB) = true := by simp
      have eC : (CC == CC) = true := by simp
      have HRI : Hid (∀ W, Quiet0 W0 W → Calls Tryd.prog 25 #[.agg #[.int .i64 a.k, .string a.nm, .int .i64 a.n, .int .i64 a.tk, .int .i64 a.tn, .slice o1 l1 c1, .slice o2 l2 c2, .int .i64 a.fr, .int .i64 a.en]] W fun e w' => e = .returned (.bool AA) ∧ Quiet0 W w') := by intro W hq; rw [hAA]; exact rightTm_any a p W (Low w) o1 l1 c1 o2 l2 c2 (h1.stay (hq0.trans hq)) (h2.stay (hq0.trans hq)) (by omega) gH (ht.stay (hq0.trans hq))
      have HRR : Hid (∀ W, Quiet0 W0 W → Calls Tryd.prog 26 #[.agg #[.int .i64 a.k, .string a.nm, .int .i64 a.n, .int .i64 a.tk, .int .i64 a.tn, .slice o1 l1 c1, .slice o2 l2 c2, .int .i64 a.fr, .int .i64 a.en]] W fun e w' => e = .returned (.bool AA) ∧ Quiet0 W w') := by intro W hq; rw [hAA]; exact refRightT_any a p W (Low w) o1 l1 c1 o2 l2 c2 (h1.stay (hq0.trans hq)) (h2.stay (hq0.trans hq)) ⟨by omega, by omega, hoa.2.2.2⟩ gR
      have HSZ : Hid (∀ W, Quiet0 W0 W → Calls Tryd.prog 27 #[.agg #[.int .i64 a.k, .string a.nm, .int .i64 a.n, .int .i64 a.tk, .int .i64 a.tn, .slice o1 l1 c1, .slice o2 l2 c2, .int .i64 a.fr, .int .i64 a.en]] W fun e w' => e = .returned (.int .i64 ((p.size + 1 : Nat) : Int)) ∧ Quiet0 W w') := fun W hq => sizeTm_any a p W (Low w) o1 l1 c1 o2 l2 c2 (h1.stay (hq0.trans hq)) (h2.stay (hq0.trans hq)) (by omega)
      have HLI : Hid (∀ W, Quiet0 W0 W → Calls Tryd.prog 28 #[.agg #[.int .i64 a.k, .string a.nm, .int .i64 a.n, .int .i64 a.tk, .int .i64 a.tn, .slice o1 l1 c1, .slice o2 l2 c2, .int .i64 a.fr, .int .i64 a.en]] W fun e w' => ∃ o c, e = .returned (.slice o (p.size + 1) c) ∧ Quiet0 W w') := fun W hq => (refListT_any a p W (Low w) o1 l1 c1 o2 l2 c2 (h2.stay (hq0.trans hq)) (by omega)).mono (by rintro e w' ⟨o, c, xs, rfl, _, hq⟩; exact ⟨o, c, rfl, hq⟩)
      have HDP : Hid (∀ W, Quiet0 W0 W → Calls Tryd.prog 29 #[.agg #[.int .i64 a.k, .string a.nm, .int .i64 a.n, .int .i64 a.tk, .int .i64 a.tn, .slice o1 l1 c1, .slice o2 l2 c2, .int .i64 a.fr, .int .i64 a.en]] W fun e w' => e = .returned (.int .i64 ((p.depth + 1 : Nat) : Int)) ∧ Quiet0 W w') := fun W hq => depthTm_any a p W (Low w) o1 l1 c1 o2 l2 c2 (h2.stay (hq0.trans hq)) (by omega)
      have HRD : Hid (∀ W, Quiet0 W0 W → Calls Tryd.prog 30 #[.agg #[.int .i64 a.k, .string a.nm, .int .i64 a.n, .int .i64 a.tk, .int .i64 a.tn, .slice o1 l1 c1, .slice o2 l2 c2, .int .i64 a.fr, .int .i64 a.en]] W fun e w' => e = .returned (.int .i64 ((p.depth + 1 : Nat) : Int)) ∧ Quiet0 W w') := fun W hq => refDepthT_any a p W (Low w) o1 l1 c1 o2 l2 c2 (h2.stay (hq0.trans hq)) (by omega)
      have HSM : Hid (∀ W, Quiet0 W0 W → Calls Tryd.prog 31 #[.agg #[.int .i64 a.k, .string a.nm, .int .i64 a.n, .int .i64 a.tk, .int .i64 a.tn, .slice o1 l1 c1, .slice o2 l2 c2, .int .i64 a.fr, .int .i64 a.en], .agg #[.int .i64 b.k, .string b.nm, .int .i64 b.n, .int .i64 b.tk, .int .i64 b.tn, .slice p1 m1 d1, .slice p2 m2 d2, .int .i64 b.fr, .int .i64 b.en]] W fun e w' => e = .returned (.bool BB) ∧ Quiet0 W w') := by intro W hq; rw [hBB]; exact sameTm_any a p b q W o1 l1 c1 o2 l2 c2 p1 m1 d1 p2 m2 d2 (Low w) (h1.stay (hq0.trans hq)) (h2.stay (hq0.trans hq)) (h3.stay (hq0.trans hq)) (h4.stay (hq0.trans hq))
      have HRS : Hid (∀ W, Quiet0 W0 W → Calls Tryd.prog 32 #[.agg #[.int .i64 a.k, .string a.nm, .int .i64 a.n, .int .i64 a.tk, .int .i64 a.tn, .slice o1 l1 c1, .slice o2 l2 c2, .int .i64 a.fr, .int .i64 a.en], .agg #[.int .i64 b.k, .string b.nm, .int .i64 b.n, .int .i64 b.tk, .int .i64 b.tn, .slice p1 m1 d1, .slice p2 m2 d2, .int .i64 b.fr, .int .i64 b.en]] W fun e w' => e = .returned (.bool BB) ∧ Quiet0 W w') := by intro W hq; rw [hBB]; exact refSameT2_any a p b q W (Low w) o1 l1 c1 o2 l2 c2 p1 m1 d1 p2 m2 d2 (h1.stay (hq0.trans hq)) (h2.stay (hq0.trans hq)) (h3.stay (hq0.trans hq)) (h4.stay (hq0.trans hq))
      have HEQ : Hid (∀ W, Quiet0 W0 W → Calls Tryd.prog 33 #[.agg #[.int .i64 a.k, .string a.nm, .int .i64 a.n, .int .i64 a.tk, .int .i64 a.tn, .slice o1 l1 c1, .slice o2 l2 c2, .int .i64 a.fr, .int .i64 a.en], .agg #[.int .i64 b.k, .string b.nm, .int .i64 b.n, .int .i64 b.tk, .int .i64 b.tn, .slice p1 m1 d1, .slice p2 m2 d2, .int .i64 b.fr, .int .i64 b.en]] W fun e w' => e = .returned (.bool CC) ∧ Quiet0 W w') := by intro W hq; rw [hCC]; exact equalTm_any a p b q W o1 l1 c1 o2 l2 c2 p1 m1 d1 p2 m2 d2 (Low w) (h1.stay (hq0.trans hq)) (h2.stay (hq0.trans hq)) (h3.stay (hq0.trans hq)) (h4.stay (hq0.trans hq))
      have HRE : Hid (∀ W, Quiet0 W0 W → Calls Tryd.prog 23 #[.agg #[.int .i64 a.k, .string a.nm, .int .i64 a.n, .int .i64 a.tk, .int .i64 a.tn, .slice o1 l1 c1, .slice o2 l2 c2, .int .i64 a.fr, .int .i64 a.en], .agg #[.int .i64 b.k, .string b.nm, .int .i64 b.n, .int .i64 b.tk, .int .i64 b.tn, .slice p1 m1 d1, .slice p2 m2 d2, .int .i64 b.fr, .int .i64 b.en]] W fun e w' => e = .returned (.bool CC) ∧ Quiet0 W w') := by intro W hq; rw [hCC]; exact refEqualT_any a p b q W (Low w) o1 l1 c1 o2 l2 c2 p1 m1 d1 p2 m2 d2 (h1.stay (hq0.trans hq)) (h2.stay (hq0.trans hq)) (h3.stay (hq0.trans hq)) (h4.stay (hq0.trans hq))
      have HET : Hid (∀ W, Quiet0 W0 W → Calls Tryd.prog 33 #[.agg #[.int .i64 a.k, .string a.nm, .int .i64 a.n, .int .i64 a.tk, .int .i64 a.tn, .slice o1 l1 c1, .slice o2 l2 c2, .int .i64 a.fr, .int .i64 a.en], .agg #[.int .i64 a.k, .string a.nm, .int .i64 a.n, .int .i64 a.tk, .int .i64 a.tn, .slice o1 l1 c1, .slice o2 l2 c2, .int .i64 a.fr, .int .i64 a.en]] W fun e w' => e = .returned (.bool true) ∧ Quiet0 W w') := by intro W hq; have h := equalTm_any a p a p W o1 l1 c1 o2 l2 c2 o1 l1 c1 o2 l2 c2 (Low w) (h1.stay (hq0.trans hq)) (h2.stay (hq0.trans hq)) (h1.stay (hq0.trans hq)) (h2.stay (hq0.trans hq)); rw [alikeT_refl] at h; exact h
      have HCP : Hid (∀ W, Quiet0 W0 W → Calls Tryd.prog 34 #[.agg #[.int .i64 a.k, .string a.nm, .int .i64 a.n, .int .i64 a.tk, .int .i64 a.tn, .slice o1 l1 c1, .slice o2 l2 c2, .int .i64 a.fr, .int .i64 a.en]] W fun e w' => ∃ u1 v1 u2 v2, e = .returned (.agg #[.int .i64 a.k, .string a.nm, .int .i64 a.n, .int .i64 a.tk, .int .i64 a.tn, .slice u1 l1 v1, .slice u2 l2 v2, .int .i64 a.fr, .int .i64 a.en]) ∧ SlcIn (fun _ => True) w' u1 l1 a.tp ∧ TSlc (fun _ => True) w' u2 l2 p ∧ Quiet0 W w') := fun W hq => (copyT_any a p W (Low w) o1 l1 c1 o2 l2 c2 (h1.stay (hq0.trans hq)) (h2.stay (hq0.trans hq)) (by omega) gC (by omega)).mono (by
        rintro e w' ⟨u1, v1, u2, v2, rfl, k1, k2, hq⟩
        exact ⟨u1, v1, u2, v2, rfl, k1.mono (fun _ _ _ => trivial), k2.mono (fun _ _ _ => trivial), hq⟩)
      have HEC : Hid (∀ W u1 v1 u2 v2, Quiet0 W0 W → SlcIn (fun _ => True) W u1 l1 a.tp → TSlc (fun _ => True) W u2 l2 p → Calls Tryd.prog 23 #[.agg #[.int .i64 a.k, .string a.nm, .int .i64 a.n, .int .i64 a.tk, .int .i64 a.tn, .slice u1 l1 v1, .slice u2 l2 v2, .int .i64 a.fr, .int .i64 a.en], .agg #[.int .i64 a.k, .string a.nm, .int .i64 a.n, .int .i64 a.tk, .int .i64 a.tn, .slice o1 l1 c1, .slice o2 l2 c2, .int .i64 a.fr, .int .i64 a.en]] W fun e w' => e = .returned (.bool true) ∧ Quiet0 W w') := by
        intro W u1 v1 u2 v2 hq k1 k2
        have h := refEqualT_any a p a p W (fun _ => True) u1 l1 v1 u2 l2 v2 o1 l1 c1 o2 l2 c2 k1 k2 ((h1.stay (hq0.trans hq)).mono (fun _ _ _ => trivial)) ((h2.stay (hq0.trans hq)).mono (fun _ _ _ => trivial))
        rw [alikeT_refl] at h; exact h
      have hdz : p.depth ≤ 199 := by have := To.depth_le p; omega
      generalize p.size + 1 = N at *
      generalize p.depth + 1 = D at *
      have eN : ((N : Int) == (N : Int)) = true := by simp
      have eD : ((D : Int) == (D : Int)) = true := by simp
      clear h1 h2 h3 h4 hoa hop hob hoq ht hmx hg1 hg2 ga ba hpz hall gH gR gC hAA hBB hCC hq0 hdz
      unfold tmv
      go_enter Tryd.func6, Tryd.ntmps6
      go_upto_region 1 with fail
      change Code.wp _ _ _ _ ((w.alloc (.cells (cells9 a o1 l1 c1 o2 l2 c2) 35)).alloc (.cells (cells9 b p1 m1 d1 p2 m2 d2) 35))
      rw [← hW0]
      clear hW0
      generalize w.heap.size = B at *
      obtain ⟨⟨x0, x1, x2, x3, x4, x5, x6, x7, x8⟩, y0, y1, y2, y3, y4, y5, y6, y7, y8⟩ := HBC.out W0 (Quiet0.refl _)
      go_wp2_with fail
      refine (HG1.out _ (Quiet0.refl _)).mono ?_; rintro e w1 ⟨rfl, hq1⟩
      have HQ1 := Lib.hid hq1
      clear x0 x1 x2 x3 x4 x5 x6 x7 x8 y0 y1 y2 y3 y4 y5 y6 y7 y8 hq1
      obtain ⟨⟨x0, x1, x2, x3, x4, x5, x6, x7, x8⟩, y0, y1, y2, y3, y4, y5, y6, y7, y8⟩ := HBC.out w1 HQ1.out
      go_wp2_with fail
      refine (HG2.out _ HQ1.out).mono ?_; rintro e w2 ⟨rfl, hq2⟩
      have HQ2 := Lib.hid (HQ1.out.trans hq2)
      clear x0 x1 x2 x3 x4 x5 x6 x7 x8 y0 y1 y2 y3 y4 y5 y6 y7 y8 hq2
      obtain ⟨⟨x0, x1, x2, x3, x4, x5, x6, x7, x8⟩, y0, y1, y2, y3, y4, y5, y6, y7, y8⟩ := HBC.out w2 HQ2.out
      go_upto_region 3 with fail
      have hqc := Quiet0.refl w2
      have HK : Hid (∀ W, Quiet0 w2 W → Quiet0 W0 W) := fun W hq => HQ2.out.trans hq
      have HBK : Hid (∀ W, Quiet0 w2 W → (W.cell? ⟨B, 0, none⟩ = some (.int .i64 a.k) ∧ W.cell? ⟨B, 1, none⟩ = some (.string a.nm) ∧ W.cell? ⟨B, 2, none⟩ = some (.int .i64 a.n) ∧ W.cell? ⟨B, 3, none⟩ = some (.int .i64 a.tk) ∧ W.cell? ⟨B, 4, none⟩ = some (.int .i64 a.tn) ∧ W.cell? ⟨B, 5, none⟩ = some (.slice o1 l1 c1) ∧ W.cell? ⟨B, 6, none⟩ = some (.slice o2 l2 c2) ∧ W.cell? ⟨B, 7, none⟩ = some (.int .i64 a.fr) ∧ W.cell? ⟨B, 8, none⟩ = some (.int .i64 a.en)) ∧ W.cell? ⟨B + 1, 0, none⟩ = some (.int .i64 b.k) ∧ W.cell? ⟨B + 1, 1, none⟩ = some (.string b.nm) ∧ W.cell? ⟨B + 1, 2, none⟩ = some (.int .i64 b.n) ∧ W.cell? ⟨B + 1, 3, none⟩ = some (.int .i64 b.tk) ∧ W.cell? ⟨B + 1, 4, none⟩ = some (.int .i64 b.tn) ∧ W.cell? ⟨B + 1, 5, none⟩ = some (.slice p1 m1 d1) ∧ W.cell? ⟨B + 1, 6, none⟩ = some (.slice p2 m2 d2) ∧ W.cell? ⟨B + 1, 7, none⟩ = some (.int .i64 b.fr) ∧ W.cell? ⟨B + 1, 8, none⟩ = some (.int .i64 b.en)) := fun W hq => HBC.out W (HQ2.out.trans hq)
      go_region_held3 (fun W => (W.cell? ⟨B, 0, none⟩ = some (.int .i64 a.k) ∧ W.cell? ⟨B, 1, none⟩ = some (.string a.nm) ∧ W.cell? ⟨B, 2, none⟩ = some (.int .i64 a.n) ∧ W.cell? ⟨B, 3, none⟩ = some (.int .i64 a.tk) ∧ W.cell? ⟨B, 4, none⟩ = some (.int .i64 a.tn) ∧ W.cell? ⟨B, 5, none⟩ = some (.slice o1 l1 c1) ∧ W.cell? ⟨B, 6, none⟩ = some (.slice o2 l2 c2) ∧ W.cell? ⟨B, 7, none⟩ = some (.int .i64 a.fr) ∧ W.cell? ⟨B, 8, none⟩ = some (.int .i64 a.en)) ∧ W.cell? ⟨B + 1, 0, none⟩ = some (.int .i64 b.k) ∧ W.cell? ⟨B + 1, 1, none⟩ = some (.string b.nm) ∧ W.cell? ⟨B + 1, 2, none⟩ = some (.int .i64 b.n) ∧ W.cell? ⟨B + 1, 3, none⟩ = some (.int .i64 b.tk) ∧ W.cell? ⟨B + 1, 4, none⟩ = some (.int .i64 b.tn) ∧ W.cell? ⟨B + 1, 5, none⟩ = some (.slice p1 m1 d1) ∧ W.cell? ⟨B + 1, 6, none⟩ = some (.slice p2 m2 d2) ∧ W.cell? ⟨B + 1, 7, none⟩ = some (.int .i64 b.fr) ∧ W.cell? ⟨B + 1, 8, none⟩ = some (.int .i64 b.en))
        (((refine HBK.out _ ?_); (repeat (first | with_reducible exact hqc | with_reducible exact Quiet0.refl _ | with_reducible refine Quiet0.trans ?_ (Quiet0.alloc _ _) | with_reducible refine Quiet0.trans ?_ (Quiet0.drew _) | fail))))
        (first
          | (go_at_call 25; (with_reducible refine Calls.mono (HRI.out _ (HK.out _ ?hq)) ?_); (case hq => (repeat (first | with_reducible exact hqc | with_reducible exact Quiet0.refl _ | with_reducible refine Quiet0.trans ?_ (Quiet0.alloc _ _) | with_reducible refine Quiet0.trans ?_ (Quiet0.drew _) | fail))); rintro e wx ⟨rfl, hqx⟩; (refine with_q (w0 := w2) ?hq2 hqx ?_); (case hq2 => (repeat (first | with_reducible exact hqc | with_reducible exact Quiet0.refl _ | with_reducible refine Quiet0.trans ?_ (Quiet0.alloc _ _) | with_reducible refine Quiet0.trans ?_ (Quiet0.drew _) | fail))); intro hqc)
          | (go_at_call 26; (with_reducible refine Calls.mono (HRR.out _ (HK.out _ ?hq)) ?_); (case hq => (repeat (first | with_reducible exact hqc | with_reducible exact Quiet0.refl _ | with_reducible refine Quiet0.trans ?_ (Quiet0.alloc _ _) | with_reducible refine Quiet0.trans ?_ (Quiet0.drew _) | fail))); rintro e wx ⟨rfl, hqx⟩; (refine with_q (w0 := w2) ?hq2 hqx ?_); (case hq2 => (repeat (first | with_reducible exact hqc | with_reducible exact Quiet0.refl _ | with_reducible refine Quiet0.trans ?_ (Quiet0.alloc _ _) | with_reducible refine Quiet0.trans ?_ (Quiet0.drew _) | fail))); intro hqc)
          | (go_at_call 27; (with_reducible refine Calls.mono (HSZ.out _ (HK.out _ ?hq)) ?_); (case hq => (repeat (first | with_reducible exact hqc | with_reducible exact Quiet0.refl _ | with_reducible refine Quiet0.trans ?_ (Quiet0.alloc _ _) | with_reducible refine Quiet0.trans ?_ (Quiet0.drew _) | fail))); rintro e wx ⟨rfl, hqx⟩; (refine with_q (w0 := w2) ?hq2 hqx ?_); (case hq2 => (repeat (first | with_reducible exact hqc | with_reducible exact Quiet0.refl _ | with_reducible refine Quiet0.trans ?_ (Quiet0.alloc _ _) | with_reducible refine Quiet0.trans ?_ (Quiet0.drew _) | fail))); intro hqc)
          | (go_at_call 28; (with_reducible refine Calls.mono (HLI.out _ (HK.out _ ?hq)) ?_); (case hq => (repeat (first | with_reducible exact hqc | with_reducible exact Quiet0.refl _ | with_reducible refine Quiet0.trans ?_ (Quiet0.alloc _ _) | with_reducible refine Quiet0.trans ?_ (Quiet0.drew _) | fail))); rintro e wx ⟨ol, cl, rfl, hqx⟩; (refine with_q (w0 := w2) ?hq2 hqx ?_); (case hq2 => (repeat (first | with_reducible exact hqc | with_reducible exact Quiet0.refl _ | with_reducible refine Quiet0.trans ?_ (Quiet0.alloc _ _) | with_reducible refine Quiet0.trans ?_ (Quiet0.drew _) | fail))); intro hqc)
          | (go_at_call 29; (with_reducible refine Calls.mono (HDP.out _ (HK.out _ ?hq)) ?_); (case hq => (repeat (first | with_reducible exact hqc | with_reducible exact Quiet0.refl _ | with_reducible refine Quiet0.trans ?_ (Quiet0.alloc _ _) | with_reducible refine Quiet0.trans ?_ (Quiet0.drew _) | fail))); rintro e wx ⟨rfl, hqx⟩; (refine with_q (w0 := w2) ?hq2 hqx ?_); (case hq2 => (repeat (first | with_reducible exact hqc | with_reducible exact Quiet0.refl _ | with_reducible refine Quiet0.trans ?_ (Quiet0.alloc _ _) | with_reducible refine Quiet0.trans ?_ (Quiet0.drew _) | fail))); intro hqc)
          | (go_at_call 30; (with_reducible refine Calls.mono (HRD.out _ (HK.out _ ?hq)) ?_); (case hq => (repeat (first | with_reducible exact hqc | with_reducible exact Quiet0.refl _ | with_reducible refine Quiet0.trans ?_ (Quiet0.alloc _ _) | with_reducible refine Quiet0.trans ?_ (Quiet0.drew _) | fail))); rintro e wx ⟨rfl, hqx⟩; (refine with_q (w0 := w2) ?hq2 hqx ?_); (case hq2 => (repeat (first | with_reducible exact hqc | with_reducible exact Quiet0.refl _ | with_reducible refine Quiet0.trans ?_ (Quiet0.alloc _ _) | with_reducible refine Quiet0.trans ?_ (Quiet0.drew _) | fail))); intro hqc)
          | (go_at_call 31; (with_reducible refine Calls.mono (HSM.out _ (HK.out _ ?hq)) ?_); (case hq => (repeat (first | with_reducible exact hqc | with_reducible exact Quiet0.refl _ | with_reducible refine Quiet0.trans ?_ (Quiet0.alloc _ _) | with_reducible refine Quiet0.trans ?_ (Quiet0.drew _) | fail))); rintro e wx ⟨rfl, hqx⟩; (refine with_q (w0 := w2) ?hq2 hqx ?_); (case hq2 => (repeat (first | with_reducible exact hqc | with_reducible exact Quiet0.refl _ | with_reducible refine Quiet0.trans ?_ (Quiet0.alloc _ _) | with_reducible refine Quiet0.trans ?_ (Quiet0.drew _) | fail))); intro hqc)
          | (go_at_call 32; (with_reducible refine Calls.mono (HRS.out _ (HK.out _ ?hq)) ?_); (case hq => (repeat (first | with_reducible exact hqc | with_reducible exact Quiet0.refl _ | with_reducible refine Quiet0.trans ?_ (Quiet0.alloc _ _) | with_reducible refine Quiet0.trans ?_ (Quiet0.drew _) | fail))); rintro e wx ⟨rfl, hqx⟩; (refine with_q (w0 := w2) ?hq2 hqx ?_); (case hq2 => (repeat (first | with_reducible exact hqc | with_reducible exact Quiet0.refl _ | with_reducible refine Quiet0.trans ?_ (Quiet0.alloc _ _) | with_reducible refine Quiet0.trans ?_ (Quiet0.drew _) | fail))); intro hqc)
          | (go_at_call 33; (with_reducible refine Calls.mono (HEQ.out _ (HK.out _ ?hq)) ?_); (case hq => (repeat (first | with_reducible exact hqc | with_reducible exact Quiet0.refl _ | with_reducible refine Quiet0.trans ?_ (Quiet0.alloc _ _) | with_reducible refine Quiet0.trans ?_ (Quiet0.drew _) | fail))); rintro e wx ⟨rfl, hqx⟩; (refine with_q (w0 := w2) ?hq2 hqx ?_); (case hq2 => (repeat (first | with_reducible exact hqc | with_reducible exact Quiet0.refl _ | with_reducible refine Quiet0.trans ?_ (Quiet0.alloc _ _) | with_reducible refine Quiet0.trans ?_ (Quiet0.drew _) | fail))); intro hqc)
          | (go_at_call 33; (with_reducible refine Calls.mono (HET.out _ (HK.out _ ?hq)) ?_); (case hq => (repeat (first | with_reducible exact hqc | with_reducible exact Quiet0.refl _ | with_reducible refine Quiet0.trans ?_ (Quiet0.alloc _ _) | with_reducible refine Quiet0.trans ?_ (Quiet0.drew _) | fail))); rintro e wx ⟨rfl, hqx⟩; (refine with_q (w0 := w2) ?hq2 hqx ?_); (case hq2 => (repeat (first | with_reducible exact hqc | with_reducible exact Quiet0.refl _ | with_reducible refine Quiet0.trans ?_ (Quiet0.alloc _ _) | with_reducible refine Quiet0.trans ?_ (Quiet0.drew _) | fail))); intro hqc)
          | (go_at_call 34; (with_reducible refine Calls.mono (HCP.out _ (HK.out _ ?hq)) ?_); (case hq => (repeat (first | with_reducible exact hqc | with_reducible exact Quiet0.refl _ | with_reducible refine Quiet0.trans ?_ (Quiet0.alloc _ _) | with_reducible refine Quiet0.trans ?_ (Quiet0.drew _) | fail))); rintro e wx ⟨u1, v1, u2, v2, rfl, hk1, hk2, hqx⟩; (refine with_q (w0 := w2) ?hq2 hqx ?_); (case hq2 => (repeat (first | with_reducible exact hqc | with_reducible exact Quiet0.refl _ | with_reducible refine Quiet0.trans ?_ (Quiet0.alloc _ _) | with_reducible refine Quiet0.trans ?_ (Quiet0.drew _) | fail))); intro hqc)
          | (go_at_call 23; (with_reducible refine Calls.mono (HRE.out _ (HK.out _ ?hq)) ?_); (case hq => (repeat (first | with_reducible exact hqc | with_reducible exact Quiet0.refl _ | with_reducible refine Quiet0.trans ?_ (Quiet0.alloc _ _) | with_reducible refine Quiet0.trans ?_ (Quiet0.drew _) | fail))); rintro e wx ⟨rfl, hqx⟩; (refine with_q (w0 := w2) ?hq2 hqx ?_); (case hq2 => (repeat (first | with_reducible exact hqc | with_reducible exact Quiet0.refl _ | with_reducible refine Quiet0.trans ?_ (Quiet0.alloc _ _) | with_reducible refine Quiet0.trans ?_ (Quiet0.drew _) | fail))); intro hqc)
          | (go_at_call 23; (with_reducible refine Calls.mono (HEC.out _ _ _ _ _ (HK.out _ ?hq) (hk1.stay ?h1) (hk2.stay ?h2)) ?_); (case hq => (repeat (first | with_reducible exact hqc | with_reducible exact Quiet0.refl _ | with_reducible refine Quiet0.trans ?_ (Quiet0.alloc _ _) | with_reducible refine Quiet0.trans ?_ (Quiet0.drew _) | fail))); ((case h1 => (repeat (first | with_reducible exact Quiet0.refl _ | with_reducible refine Quiet0.trans ?_ (Quiet0.alloc _ _) | with_reducible refine Quiet0.trans ?_ (Quiet0.drew _) | fail))); (case h2 => (repeat (first | with_reducible exact Quiet0.refl _ | with_reducible refine Quiet0.trans ?_ (Quiet0.alloc _ _) | with_reducible refine Quiet0.trans ?_ (Quiet0.drew _) | fail)))); rintro e wx ⟨rfl, hqx⟩; (refine with_q (w0 := w2) ?hq2 hqx ?_); (case hq2 => (repeat (first | with_reducible exact hqc | with_reducible exact Quiet0.refl _ | with_reducible refine Quiet0.trans ?_ (Quiet0.alloc _ _) | with_reducible refine Quiet0.trans ?_ (Quiet0.drew _) | fail))); intro hqc)
          | (go_at_call 21; (with_reducible refine Calls.mono (HA.out _ (HK.out _ ?hq)) ?_); (case hq => (repeat (first | with_reducible exact hqc | with_reducible exact Quiet0.refl _ | with_reducible refine Quiet0.trans ?_ (Quiet0.alloc _ _) | with_reducible refine Quiet0.trans ?_ (Quiet0.drew _) | fail))); rintro e wx ⟨rfl, hqx⟩; (refine with_q (w0 := w2) ?hq2 hqx ?_); (case hq2 => (repeat (first | with_reducible exact hqc | with_reducible exact Quiet0.refl _ | with_reducible refine Quiet0.trans ?_ (Quiet0.alloc _ _) | with_reducible refine Quiet0.trans ?_ (Quiet0.drew _) | fail))); intro hqc)
          | fail)
      all_goals
        go_wp2_with fail
        go_ret
        exact ⟨rfl, HQ0.out.trans (HQ2.out.trans hqc)⟩
    · rw [hg2] at HG2
      clear h1 h2 h3 h4 hoa hop hob hoq ht hmx hg1 hg2 hq0
      unfold tmv
      go_enter Tryd.func6, Tryd.ntmps6
      go_upto_region 1 with fail
      change Code.wp _ _ _ _ ((w.alloc (.cells (cells9 a o1 l1 c1 o2 l2 c2) 35)).alloc (.cells (cells9 b p1 m1 d1 p2 m2 d2) 35))
      rw [← hW0]
      clear hW0
      generalize w.heap.size = B at *
      obtain ⟨⟨x0, x1, x2, x3, x4, x5, x6, x7, x8⟩, y0, y1, y2, y3, y4, y5, y6, y7, y8⟩ := HBC.out W0 (Quiet0.refl _)
      go_wp2_with fail
      refine (HG1.out _ (Quiet0.refl _)).mono ?_; rintro e w1 ⟨rfl, hq1⟩
      have HQ1 := Lib.hid hq1
      clear x0 x1 x2 x3 x4 x5 x6 x7 x8 y0 y1 y2 y3 y4 y5 y6 y7 y8 hq1
      obtain ⟨⟨x0, x1, x2, x3, x4, x5, x6, x7, x8⟩, y0, y1, y2, y3, y4, y5, y6, y7, y8⟩ := HBC.out w1 HQ1.out
      go_wp2_with fail
      refine (HG2.out _ HQ1.out).mono ?_; rintro e w2 ⟨rfl, hq2⟩
      have HQ2 := Lib.hid (HQ1.out.trans hq2)
      clear x0 x1 x2 x3 x4 x5 x6 x7 x8 y0 y1 y2 y3 y4 y5 y6 y7 y8 hq2
      obtain ⟨⟨x0, x1, x2, x3, x4, x5, x6, x7, x8⟩, y0, y1, y2, y3, y4, y5, y6, y7, y8⟩ := HBC.out w2 HQ2.out
      go_wp2_with fail
      refine (HA.out _ HQ2.out).mono ?_; rintro e w3 ⟨rfl, hq3⟩
      go_wp2_with fail
      go_ret
      exact ⟨rfl, HQ0.out.trans (HQ2.out.trans hq3)⟩
  · rw [hg1] at HG1
    clear h1 h2 h3 h4 hoa hop hob hoq ht hmx hg1 hq0
    unfold tmv
    go_enter Tryd.func6, Tryd.ntmps6
    go_upto_region 1 with fail
    change Code.wp _ _ _ _ ((w.alloc (.cells (cells9 a o1 l1 c1 o2 l2 c2) 35)).alloc (.cells (cells9 b p1 m1 d1 p2 m2 d2) 35))
    rw [← hW0]
    clear hW0
    generalize w.heap.size = B at *
    obtain ⟨⟨x0, x1, x2, x3, x4, x5, x6, x7, x8⟩, y0, y1, y2, y3, y4, y5, y6, y7, y8⟩ := HBC.out W0 (Quiet0.refl _)
    go_wp2_with fail
    refine (HG1.out _ (Quiet0.refl _)).mono ?_; rintro e w1 ⟨rfl, hq1⟩
    have HQ1 := Lib.hid hq1
    clear x0 x1 x2 x3 x4 x5 x6 x7 x8 y0 y1 y2 y3 y4 y5 y6 y7 y8 hq1
    obtain ⟨⟨x0, x1, x2, x3, x4, x5, x6, x7, x8⟩, y0, y1, y2, y3, y4, y5, y6, y7, y8⟩ := HBC.out w1 HQ1.out
    go_wp2_with fail
    refine (HA.out _ HQ1.out).mono ?_; rintro e w3 ⟨rfl, hq3⟩
    go_wp2_with fail
    go_ret
    exact ⟨rfl, HQ0.out.trans (HQ1.out.trans hq3)⟩
end Go.Proofs.YtggidhgifaekbaaDoor
end
section
/-
  What the rows' condition on listed variables gives: strings.asciiSpace holds its table; a world that meets it (the door's own). No condition.
-/
namespace Go.Proofs.YtggidhgifaekbaaDoor
open Go.ChangeShapes Go.WideShapes Go.ChangeAt Go.RowKit

def doorSteps : Nat := 48
def laidL : List (String × DataW Unit) := [("unicode.White_Space", Rows.laid_unicode_White_Space), ("strings.asciiSpace", Rows.laid_strings_asciiSpace)]
set_option maxRecDepth 100000 in
theorem ascii_data : (Rows.laid_strings_asciiSpace : DataW Unit) = Lib.tabData .u8 Lib.asciiSpaceTab := by rfl
set_option maxRecDepth 100000 in
theorem door_met (os : Os) (args : Array Value) : laidMetH Tryd.prog laidL ((World.doorLaid Tryd.prog doorSteps os).forCall (fun _ _ => 0) ⟨#[], args, []⟩).memory :=
  laidMetH_of_parts3 (fuel := 8) (laidMet_of_run' 8 (by kernel_rfl) (by kernel_rfl)) (by kernel_rfl) (by kernel_rfl)
set_option maxRecDepth 100000 in
theorem spaces_of_laid {W : World} (h : laidMetH Tryd.prog laidL W) : Lx.Spaces W := by
  rw [MakeChecks.laidMetH_plain _ _ _ (by kernel_rfl)] at h
  have h2 := laidMet.tail h
  rw [ascii_data] at h2
  exact Lib.tabIs_of_head (g := 0) (n := 256) (by kernel_rfl) (by kernel_rfl) (t := 144) (e := 5) Tryd.underlying144 Tryd.underlying5 (by kernel_rfl) (by kernel_rfl) h2
end Go.Proofs.YtggidhgifaekbaaDoor
end
