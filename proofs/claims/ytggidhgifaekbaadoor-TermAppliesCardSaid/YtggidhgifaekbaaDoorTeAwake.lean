/-
  The laws' awake of chapter 05. Condition: the table of blanks holds what its initialiser lays.
-/
import Derived.Test.YtggidhgifaekbaaDoorTeApply
import Derived.Test.YtggidhgifaekbaaDoorTeNth
namespace Go.Proofs.YtggidhgifaekbaaDoor
open Go.RowKit Go.Shelf

abbrev fNd : Nd := ⟨1, ⟨#[102]⟩, 0, 0, 0, .nil, 0, 0⟩
abbrev xNd : Nd := ⟨1, ⟨#[120]⟩, 0, 0, 0, .nil, 0, 0⟩
abbrev fxTo : To := .cons fNd .nil (.cons xNd .nil .nil)
theorem slcIn_nil {R : Nat → Prop} {w : World} {o : Option Addr} {l : Nat} (h : SlcIn R w o l .nil) : l = 0 := h.1
theorem tslc_nil {R : Nat → Prop} {w : World} {o : Option Addr} {l : Nat} (h : TSlc R w o l .nil) : l = 0 := h.1
theorem fx_flat : (To.cons appNd fxTo .nil).flat = [(appNd, fxTo), (fNd, .nil), (xNd, .nil)] := rfl
theorem fx_good : allT GoodH (.cons appNd fxTo .nil) := by
  have h : ∀ k nm, nm.size ≤ 100000 → GoodH ⟨k, nm, 0, 0, 0, .nil, 0, 0⟩ := fun k nm hn => ⟨hn, Nat.zero_le _, (by decide : (Lit.int .i64 0).wf = true), trivial⟩
  exact ⟨h _ _ (by decide), ⟨h _ _ (by decide), trivial, h _ _ (by decide), trivial, trivial⟩, trivial⟩
theorem fx_right : (To.cons appNd fxTo .nil).flat.all sndX = true := by
  rw [fx_flat]; decide +kernel
set_option maxHeartbeats 4000000 in
set_option maxRecDepth 100000 in
theorem awakeT_any (w : World) (ht : Lx.Spaces w) : Calls Tryd.prog 21 #[] w fun e w' => e = .returned (.bool true) ∧ Quiet0 w w' := by
  have HT := Lib.hid ht
  have HAP : Hid (∀ W b, W.heap[b]? = some (.cells (cells18 fNd none 0 0 none 0 0 xNd none 0 0 none 0 0) 35 (0, 0)) → Calls Tryd.prog 24 #[.slice (some ⟨b, 0, none⟩) 2 2] W fun e w' => ∃ p1 d1 p2 d2, e = .returned (.agg #[.int .i64 5, .string ⟨#[]⟩, .int .i64 0, .int .i64 0, .int .i64 0, .slice p1 0 d1, .slice p2 2 d2, .int .i64 0, .int .i64 0]) ∧ TSlc (fun _ => True) w' p2 2 fxTo ∧ Quiet0 W w') := by
    intro W b hb
    have h := slc9two (R := fun _ => True) (gs := .nil) (qs := .nil) hb trivial (SlcIn.nil _ _ _) (TSlc.nil _ _ _) (SlcIn.nil _ _ _) (TSlc.nil _ _ _)
    refine (apply_more fNd .nil (.cons xNd .nil .nil) W _ _ _ 2 h (by omega) ⟨by decide, trivial, by decide, trivial, trivial⟩ (by decide)).mono ?_
    rintro e w' ⟨p1, m1, d1, p2, m2, d2, rfl, h1, h2, hq⟩
    obtain rfl := slcIn_nil (h1 : SlcIn _ _ _ _ .nil)
    have h2' : TSlc (fun b => W.heap.size ≤ b) w' p2 m2 fxTo := h2
    obtain rfl : m2 = 2 := h2'.1
    exact ⟨p1, d1, p2, d2, rfl, h2'.mono (fun _ _ _ => trivial), hq⟩
  have HNT : Hid (∀ W p1 d1 p2 d2, TSlc (fun _ => True) W p2 2 fxTo → Calls Tryd.prog 72 #[.agg #[.int .i64 5, .string ⟨#[]⟩, .int .i64 0, .int .i64 0, .int .i64 0, .slice p1 0 d1, .slice p2 2 d2, .int .i64 0, .int .i64 0], .int .i64 2] W fun e w' => ∃ q1 e1 q2 e2, e = .returned (.tuple #[.agg #[.int .i64 1, .string ⟨#[120]⟩, .int .i64 0, .int .i64 0, .int .i64 0, .slice q1 0 e1, .slice q2 0 e2, .int .i64 0, .int .i64 0], .bool true]) ∧ Quiet0 W w') := by
    intro W p1 d1 p2 d2 h
    refine (nthTm_any appNd fxTo 2 (xNd, .nil) W (fun k => k < W.heap.size) p1 0 d1 p2 2 d2 (SlcIn.nil _ _ _) (h.mono (fun k hk _ => hk)) (by decide) (allT_mono (fun h hg => by have := hg.2.1; omega) _ fx_good) rfl (by decide)).mono ?_
    rintro e w' ⟨q1, m1, e1, q2, m2, e2, rfl, h1, h2, hq⟩
    obtain rfl := slcIn_nil (h1 : SlcIn _ _ _ _ .nil)
    obtain rfl := tslc_nil (h2 : TSlc _ _ _ _ .nil)
    exact ⟨q1, e1, q2, e2, rfl, hq⟩
  have HRI : Hid (∀ W p1 d1 p2 d2, Lx.Spaces W → TSlc (fun _ => True) W p2 2 fxTo → Calls Tryd.prog 25 #[.agg #[.int .i64 5, .string ⟨#[]⟩, .int .i64 0, .int .i64 0, .int .i64 0, .slice p1 0 d1, .slice p2 2 d2, .int .i64 0, .int .i64 0]] W fun e w' => e = .returned (.bool true) ∧ Quiet0 W w') := by
    intro W p1 d1 p2 d2 ht h
    have h := rightTm_any appNd fxTo W _ p1 0 d1 p2 2 d2 (SlcIn.nil _ _ _) h (by decide) fx_good ht
    rw [fx_right] at h; exact h
  have HSZ : Hid (∀ W p1 d1 p2 d2, TSlc (fun _ => True) W p2 2 fxTo → Calls Tryd.prog 27 #[.agg #[.int .i64 5, .string ⟨#[]⟩, .int .i64 0, .int .i64 0, .int .i64 0, .slice p1 0 d1, .slice p2 2 d2, .int .i64 0, .int .i64 0]] W fun e w' => e = .returned (.int .i64 3) ∧ Quiet0 W w') := by
    intro W p1 d1 p2 d2 h
    exact sizeTm_any appNd fxTo W _ p1 0 d1 p2 2 d2 (SlcIn.nil _ _ _) h (by decide)
  clear ht
  go_enter Tryd.func21, Tryd.ntmps21
  go_wp2_with fail
  refine (HAP.out _ _ (heap_alloc_new w _)).mono ?_; rintro e w1 ⟨p1, d1, p2, d2, rfl, hs1, hq1⟩
  have HQ1 : Hid (Quiet0 w w1) := (Quiet0.alloc _ _).trans hq1
  have HS1 := Lib.hid hs1
  clear hs1 hq1
  go_upto_region 2 with fail
  obtain ⟨W2, hW2⟩ : ∃ W2, W2 = w1.alloc (.cells #[.int .i64 5, .string ⟨#[]⟩, .int .i64 0, .int .i64 0, .int .i64 0, .slice p1 0 d1, .slice p2 2 d2, .int .i64 0, .int .i64 0] 35) := ⟨_, rfl⟩
  have HQ2 : Hid (Quiet0 w W2) := by rw [hW2]; exact HQ1.out.trans (Quiet0.alloc _ _)
  have HS2 : Hid (TSlc (fun _ => True) W2 p2 2 fxTo) := by rw [hW2]; exact HS1.out.stay (Quiet0.alloc _ _)
  have HB2 : Hid (W2.heap[w1.heap.size]? = some (.cells #[.int .i64 5, .string ⟨#[]⟩, .int .i64 0, .int .i64 0, .int .i64 0, .slice p1 0 d1, .slice p2 2 d2, .int .i64 0, .int .i64 0] 35 (0, 0))) := by rw [hW2]; exact heap_alloc_new _ _
  change Code.wp _ _ _ _ (w1.alloc (.cells #[.int .i64 5, .string ⟨#[]⟩, .int .i64 0, .int .i64 0, .int .i64 0, .slice p1 0 d1, .slice p2 2 d2, .int .i64 0, .int .i64 0] 35))
  rw [← hW2]
  clear hW2 HS1 HQ1
  generalize w1.heap.size = B at *
  obtain ⟨⟨x0, x1, x2, x3, x4, x5, x6, x7, x8⟩, -⟩ := block9 HB2.out
  go_wp2_with fail
  refine (HNT.out _ _ _ _ _ HS2.out).mono ?_; rintro e w3 ⟨q1, e1, q2, e2, rfl, hq3⟩
  have HQ3 := Lib.hid hq3
  clear x0 x1 x2 x3 x4 x5 x6 x7 x8 hq3
  go_upto_region 3 with fail
  obtain ⟨W4, hW4⟩ : ∃ W4, W4 = w3.alloc (.cells #[.int .i64 1, .string ⟨#[120]⟩, .int .i64 0, .int .i64 0, .int .i64 0, .slice q1 0 e1, .slice q2 0 e2, .int .i64 0, .int .i64 0] 35) := ⟨_, rfl⟩
  have HQ4 : Hid (Quiet0 W2 W4) := by rw [hW4]; exact HQ3.out.trans (Quiet0.alloc _ _)
  have HB4 : Hid (W4.heap[w3.heap.size]? = some (.cells #[.int .i64 1, .string ⟨#[120]⟩, .int .i64 0, .int .i64 0, .int .i64 0, .slice q1 0 e1, .slice q2 0 e2, .int .i64 0, .int .i64 0] 35 (0, 0))) := by rw [hW4]; exact heap_alloc_new _ _
  change Code.wp _ _ _ _ (w3.alloc (.cells #[.int .i64 1, .string ⟨#[120]⟩, .int .i64 0, .int .i64 0, .int .i64 0, .slice q1 0 e1, .slice q2 0 e2, .int .i64 0, .int .i64 0] 35))
  rw [← hW4]
  clear hW4 HQ3
  generalize w3.heap.size = D at *
  obtain ⟨⟨x0, x1, x2, x3, x4, x5, x6, x7, x8⟩, -⟩ := block9 (blk_after HQ4.out HB2.out)
  go_wp2_with fail
  refine (HRI.out _ _ _ _ _ (HT.out.stay (HQ2.out.trans HQ4.out)) (HS2.out.stay HQ4.out)).mono ?_; rintro e w5 ⟨rfl, hq5⟩
  have HQ5 := Lib.hid hq5
  clear x0 x1 x2 x3 x4 x5 x6 x7 x8 hq5
  obtain ⟨⟨x0, x1, x2, x3, x4, x5, x6, x7, x8⟩, -⟩ := block9 (blk_after (HQ4.out.trans HQ5.out) HB2.out)
  go_wp2_with fail
  refine (HSZ.out _ _ _ _ _ (HS2.out.stay (HQ4.out.trans HQ5.out))).mono ?_; rintro e w6 ⟨rfl, hq6⟩
  have HQ6 := Lib.hid (HQ5.out.trans hq6)
  clear x0 x1 x2 x3 x4 x5 x6 x7 x8 hq6
  obtain ⟨⟨x0, x1, x2, x3, x4, x5, x6, x7, x8⟩, -⟩ := block9 (blk_after HQ6.out HB4.out)
  go_wp2_with fail
  go_ret
  exact ⟨rfl, HQ2.out.trans (HQ4.out.trans HQ6.out)⟩
end Go.Proofs.YtggidhgifaekbaaDoor
