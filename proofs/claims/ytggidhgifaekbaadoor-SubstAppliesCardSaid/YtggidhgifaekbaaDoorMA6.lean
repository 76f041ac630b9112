/-
  Texts laid together (SuRefApply, SuEq, TySame2, SuSolves): what each one proves, and its conditions, stands at its head.
-/
import Derived.Deep.RegionLaw
import Derived.Test.YtggidhgifaekbaaDoorMA1
import Derived.Test.YtggidhgifaekbaaDoorMA2
import Derived.Test.YtggidhgifaekbaaDoorMA3
import Derived.Test.YtggidhgifaekbaaDoorMA4
import Derived.Test.YtggidhgifaekbaaDoorMA5
/-
  The reference's Apply. Conditions: the type and the binds lie in memory as told; they are small.
-/
namespace Go.Proofs.YtggidhgifaekbaaDoor
open Go.RowKit Go.Maps

/-- a row of types under way, its value in a box at C; its parts in old blocks (below N) or behind C -/
structure RowX (N C : Nat) (w : World) (v : Value) (f : Fo) (xs : List Value) : Prop where
  own : w.ownsRow 0 24 3 v f.length xs
  low : ∀ k, v.ownBlock = some k → C < k
  cells : RowOf (fun k => (k < N ∨ C < k) ∧ v.ownBlock ≠ some k) w xs f
theorem RowX.nil (N C : Nat) (w : World) : RowX N C w (.slice none 0 0) .nil [] := ⟨World.ownsRow_nil _ _ _ _, fun k hk => (by cases hk), rfl⟩
theorem RowX.snoc {N C : Nat} {w0 W w1 : World} {v : Value} {f : Fo} {xs : List Value} {k n : Int} {ps : Fo} {o : Option Addr} {len cap g c N' : Nat} (hr : RowX N C w0 v f xs) (hq : Quiet0 w0 W)
    (hs : SlcIn (fun j => j < N ∨ N' ≤ j) W o len ps) (hN : N ≤ C) (hC : C < w0.heap.size) (hN' : w0.heap.size ≤ N')
    (ho : w1.ownsRow 0 24 3 (.slice (some ⟨g, 0, none⟩) (f.length + 1) c) (f.length + 1) (xs ++ [.int .i64 k, .int .i64 n, .slice o len cap])) (hf : Fr (fun j => v.ownBlock = some j) W w1) (hg : v.ownBlock = some g ∨ W.heap.size ≤ g) :
    RowX N C w1 (.slice (some ⟨g, 0, none⟩) (f.length + 1) c) (f.app (.cons k n ps .nil)) (xs ++ [.int .i64 k, .int .i64 n, .slice o len cap]) := by
  have hsz := hq.size
  have hown : ∀ j, v.ownBlock = some j → C < j ∧ j < w0.heap.size := fun j h => ⟨hr.low j h, (hr.own.lt j h).2⟩
  refine ⟨by rw [Fo.app_length]; exact ho, ?_, ?_⟩
  · intro j hj
    simp [Value.ownBlock] at hj
    subst hj
    rcases hg with h | h
    · exact hr.low g h
    · omega
  · have hk : ∀ j, j < W.heap.size → ((j < N ∨ C < j) ∧ v.ownBlock ≠ some j) → (((j < N ∨ C < j) ∧ (Value.slice (some ⟨g, 0, none⟩) (f.length + 1) c).ownBlock ≠ some j) ∧ ¬ v.ownBlock = some j) := by
      rintro j hj ⟨h1, h2⟩
      refine ⟨⟨h1, fun h => ?_⟩, h2⟩
      simp [Value.ownBlock] at h
      subst h
      rcases hg with h | h
      · exact h2 h
      · omega
    have hc := RowOf.fr (T := fun j => (j < N ∨ C < j) ∧ v.ownBlock ≠ some j) hq (fun j _ hj => ⟨hj, fun h => h⟩) f xs hr.cells
    have hs' : SlcIn (fun j => (j < N ∨ C < j) ∧ v.ownBlock ≠ some j) W o len ps := hs.fr (Fr.refl (fun _ => False) _) (fun j _ hj => ⟨⟨by have hj' : j < N ∨ N' ≤ j := hj; omega, fun h => by have := hown j h; have hj' : j < N ∨ N' ≤ j := hj; omega⟩, fun h => h⟩)
    exact RowOf.snoc (hs'.fr hf hk) f xs (RowOf.fr hf hk f xs hc)
theorem RowX.put {N C : Nat} {w w' : World} {v : Value} {f : Fo} {xs : List Value} (h : RowX N C w v f xs) (hN : N ≤ C) (hf : Fr (fun j => j = C) w w') : RowX N C w' v f xs :=
  ⟨ownsRow_fr h.own hf (fun j hj h' => by have := h.low j hj; have h2 : j = C := h'; omega), h.low, RowOf.fr hf (fun j _ hj => ⟨hj, fun h' => by have h2 : j = C := h'; omega⟩) f xs h.cells⟩
theorem RowX.slc {N C : Nat} {w : World} {o : Option Addr} {len cap : Nat} {f : Fo} {xs : List Value} (h : RowX N C w (.slice o len cap) f xs) (hl : len = f.length) (hm : len ≤ maxLen) : SlcIn (fun j => j < N ∨ C < j) w o len f := by
  refine ⟨hl, hm, fun h0 => ?_⟩
  rcases h.own.2 with ⟨_, h2⟩ | ⟨g, cap', cur, he, _⟩
  · omega
  · injection he with h1 h2 h3
    subst h1
    refine ⟨g, 0, rfl, RowOf.at (R := fun j => j < N ∨ C < j) (.inr (h.low g rfl)) f xs 0 (RowOf.fr (Fr.refl (fun _ => False) w) (fun k _ hk => ⟨hk.1, fun h => h⟩) f xs h.cells) ?_⟩
    intro j u hj
    have := h.own.cells (g := g) rfl j u hj
    simpa [Addr.add_lit] using this
theorem with_fr3 {wr w1 w2 : World} {B : Nat} {S : Nat → Prop} {G : Prop} (h : Fr (fun j => B < j) wr w1) (hf : Fr S w1 w2) (hS : ∀ j, S j → B < j) (k : Fr (fun j => B < j) wr w2 → G) : G := k (h.trans (hf.mono (fun j _ hj => hS j hj)))
def RApp (w0 : World) (a : Option Addr) (c : Nat) (l : List Bd) (k n : Int) (ps : Fo) : Prop := ∀ (w : World) (o : Option Addr) (len cap : Nat), Quiet0 w0 w → Slc w o len ps → ps.size ≤ 1000000 →
  Calls Tryd.prog 59 #[.slice a l.length c, tyv k n o len cap] w fun e w' => ∃ o' len' cap', e = .returned (tyv (sK l k n) (sN l k n) o' len' cap') ∧ SlcIn (fun j => j < w0.heap.size ∨ w.heap.size ≤ j) w' o' len' (sP l k n ps) ∧ Quiet0 w w'
set_option maxHeartbeats 4000000 in
set_option maxRecDepth 100000 in
theorem refApply_any (w0 : World) (a : Option Addr) (c : Nat) (l : List Bd) (hb : BindsAt w0 a l) (hll : l.length ≤ 1000000) (k n : Int) (ps : Fo) : RApp w0 a c l k n ps := by
  refine Fo.ind' (T := RApp w0 a c l) ?_ k n ps
  intro k n ps ih w o len cap hq0 hs hsz
  have hlz := Fo.length_le ps
  rw [← hs.1] at hlz
  have HS := Lib.hid hs
  have IH := Lib.hid ih
  have HL := Lib.hid hs.1
  have hmx := hs.2.1
  unfold maxLen at hmx
  have HQ00 := Lib.hid hq0
  have HBD := Lib.hid hb
  obtain ⟨W1, hW1⟩ : ∃ W1, W1 = (w.alloc (.cells #[.int .i64 k, .int .i64 n, .slice o len cap] 24)).alloc (.cells #[.int .i64 0, .int .i64 0, .slice none 0 0] 24) := ⟨_, rfl⟩
  have HQ1 : Hid (Quiet0 w W1) := by rw [hW1]; exact (Quiet0.alloc _ _).trans (Quiet0.alloc _ _)
  have HBT : Hid (W1.heap[w.heap.size]? = some (.cells #[.int .i64 k, .int .i64 n, .slice o len cap] 24 (0, 0))) := by rw [hW1]; exact box_after (heap_alloc_new w _) (Quiet0.alloc _ _)
  have HZ1 : Hid (W1.heap[w.heap.size + 1]? = some (.cells #[.int .i64 0, .int .i64 0, .slice none 0 0] 24 (0, 0))) := by
    rw [hW1, show w.heap.size + 1 = (w.alloc (.cells #[.int .i64 k, .int .i64 n, .slice o len cap] 24)).heap.size from by simp]; exact heap_alloc_new _ _
  have HFN := Lib.hid (fun (W : World) (hq : Quiet0 w W) => find_any l W a c n (hb.stay (hq0.trans hq)) hll)
  clear hs ih hq0 hb
  cases hk : (k == 1)
  · have hh : hit l k n = none := by unfold hit; rw [hk]; rfl
    have e1 : sK l k n = k := by unfold sK; rw [hh]
    have e2 : sN l k n = n := by unfold sN; rw [hh]
    have e3 : sP l k n ps = substF l ps := by unfold sP; rw [hh]
    rw [e1, e2, e3]
    clear e1 e2 e3 hh
    unfold tyv
    go_enter Tryd.func59, Tryd.ntmps59
    go_upto_region 1 with fail
    rw [← hW1]
    clear hW1
    generalize hB : w.heap.size = B at *
    have HBE := Lib.hid hB
    clear hB
    obtain ⟨p0, p1, p2, _, _, _⟩ := box_cells3 HBT.out
    go_upto_region 7 with fail
    obtain ⟨WC, hWC⟩ : ∃ WC, WC = W1.alloc (.cells #[.int .i64 k, .int .i64 n, .slice none 0 0] 24) := ⟨_, rfl⟩
    obtain ⟨C, hC⟩ : ∃ C, C = W1.heap.size := ⟨_, rfl⟩
    have HCB : Hid (WC.heap[C]? = some (.cells #[.int .i64 k, .int .i64 n, .slice none 0 0] 24 (0, 0))) := by rw [hWC, hC]; exact heap_alloc_new _ _
    have HQ1C : Hid (Quiet0 W1 WC) := by rw [hWC]; exact Quiet0.alloc _ _
    have hCB : B + 1 < C := by have := lt_of_block HZ1.out; omega
    have HQW := Lib.hid (HQ1.out.trans HQ1C.out)
    have HQWC := Lib.hid (HQ00.out.trans HQW.out)
    have HB0 := Lib.hid (box_after HBT.out HQ1C.out)
    have HB1 := Lib.hid (box_after HZ1.out HQ1C.out)
    obtain ⟨N0, hN0⟩ : ∃ N0, N0 = w0.heap.size := ⟨_, rfl⟩
    have HN0 := Lib.hid hN0
    have HNC : Hid (w0.heap.size ≤ C ∧ N0 ≤ C) := by have h1 := HQ00.out.size; have h2 := HQ1.out.size; rw [hN0, hC]; exact ⟨Nat.le_trans h1 h2, Nat.le_trans h1 h2⟩
    have HCW : Hid (C < WC.heap.size ∧ WC.heap.size = C + 1 ∧ w.heap.size ≤ C) := by have h2 := HQ1.out.size; rw [hWC, hC]; simp; exact h2
    change Code.wp _ _ _ _ (W1.alloc (.cells #[.int .i64 k, .int .i64 n, .slice none 0 0] 24))
    rw [← hWC]
    rw [← hC]
    clear hWC hC hN0
    clear p0 p1 p2
    go_wp2_with fail
    go_loopw [7] (fun t wr => ∃ (i : Nat) (f : Fo) (xs : List Value) (vo : Option Addr) (vc : Nat), t = .int .i64 i ∧ i ≤ len ∧ f.length = i ∧ f.app (substF l (ps.drop i)) = substF l ps ∧ RowX N0 C wr (.slice vo i vc) f xs ∧ wr.heap[C]? = some (.cells #[.int .i64 k, .int .i64 n, .slice vo i vc] 24 (0, 0)) ∧ Quiet0 w0 wr ∧ Fr (fun j => j = C) WC wr) (fun t _ => len - (intOf t).toNat)
    case atStart => exact ⟨0, .nil, [], none, 0, rfl, Nat.zero_le _, rfl, by rw [Fo.drop_zero]; rfl, RowX.nil _ _ _, HCB.out, HQWC.out, Fr.refl _ _⟩
    case round =>
      obtain ⟨i, f, xs, vo, vc, rfl, hi, hfl, hap, hrow, hbc, hq, hfw⟩ := hrel
      have HF := Lib.hid hfl
      have HAP := Lib.hid hap
      have HR := Lib.hid hrow
      have HBC := Lib.hid hbc
      have HQ := Lib.hid hq
      have HFW := Lib.hid hfw
      have hbb : wr.heap[B]? = some (.cells #[.int .i64 k, .int .i64 n, .slice o len cap] 24 (0, 0)) := blk_fr hfw (fun h => by have h' : B = C := h; omega) HB0.out
      have hbz : wr.heap[B + 1]? = some (.cells #[.int .i64 0, .int .i64 0, .slice none 0 0] 24 (0, 0)) := blk_fr hfw (fun h => by have h' : B + 1 = C := h; omega) HB1.out
      have HBZ := Lib.hid hbz
      obtain ⟨p0, p1, p2, _, _, _⟩ := box_cells3 hbb
      obtain ⟨g0, g1, g2, _, _, _⟩ := box_cells3 hbc
      have HSW : Hid (Slc wr o len ps) := (HS.out.lt.fr (T := fun j => j < B) (Fr.trans' (HQW.out.mono (fun _ _ h => h.elim)) hfw (fun j _ h => h)) (fun j _ hj => ⟨HBE.out ▸ hj, fun h => by have h' : j = C := h; have h2 : j < w.heap.size := hj; have := HBE.out; omega⟩)).slc
      clear hfl hap hrow hbc hq hfw hbb hbz
      by_cases hlt : i < len
      · have hlt' : (i : Int) < len := by omega
        obtain ⟨bb, off, k1, n1, qs, o1, len1, cap1, rfl, hd, hg, e0, e1, e2, hs1⟩ := HSW.out.nth hlt
        obtain ⟨_, _, _, _, _, _, _, _, hoo, _, _, f0, _, _, _⟩ := HS.out.nth hlt
        have hbl : bb < B := by cases hoo; have := World.block_lt_of_cell? _ _ f0; have := HBE.out; simp at *; omega
        have hsq := Fo.size_get ps i k1 n1 qs hg
        have HC : Hid (∀ W, Quiet0 wr W → Calls Tryd.prog 59 #[.slice a l.length c, .agg #[.int .i64 k1, .int .i64 n1, .slice o1 len1 cap1]] W fun e w' => ∃ o' len' cap', e = .returned (.agg #[.int .i64 (sK l k1 n1), .int .i64 (sN l k1 n1), .slice o' len' cap']) ∧ SlcIn (fun j => j < w0.heap.size ∨ wr.heap.size ≤ j) w' o' len' (sP l k1 n1 qs) ∧ Quiet0 W w') := by
          intro W hq
          refine (IH.out i k1 n1 qs hg W o1 len1 cap1 (HQ.out.trans hq) (hs1.stay hq) (by omega)).mono ?_
          rintro e w' ⟨o', l', c', rfl, h1, h2⟩
          exact ⟨o', l', c', rfl, h1.fr (Fr.refl (fun _ => False) _) (fun j _ hj => ⟨by have h3 := hq.size; have hj' : j < w0.heap.size ∨ W.heap.size ≤ j := hj; show j < w0.heap.size ∨ wr.heap.size ≤ j; omega, fun h => h⟩), h2⟩
        have HD : Hid ((f.app (.cons (sK l k1 n1) (sN l k1 n1) (sP l k1 n1 qs) .nil)).app (substF l (ps.drop (i + 1))) = substF l ps) := by
          show _ = _
          rw [← HAP.out, hd, Fo.app_assoc, substF_cons]; rfl
        have HRO : Hid (wr.ownsRow 0 24 3 (.slice vo i vc) i xs) := by
          have h := HR.out.own
          rw [HF.out] at h
          exact h
        have HLO : Hid (∀ j, (Value.slice vo i vc).ownBlock = some j → B < j) := fun j h => by have := HR.out.low j h; omega
        have HOC : Hid (¬ (fun j => (Value.slice vo i vc).ownBlock = some j) C) := fun h => by have := HR.out.low C h; omega
        have hlC := lt_of_block HBC.out
        have hBC : B < C := by omega
        clear hd hg hs1 hsq hoo f0
        generalize sK l k1 n1 = k2 at *
        generalize sN l k1 n1 = n2 at *
        generalize sP l k1 n1 qs = p2' at *
        have hqc := Quiet0.refl wr
        have hfr1 := Fr.refl (fun j => B < j) wr
        have hfr2 := Fr.refl (fun j => B < j) wr
        go_wp2_with fail
        go_region_law (first
            | (refine step_append_one w1 ?hgd (.tmp 32) (.tmp 40) 22 ?hop 24 _ 3 40 elemTy (.slice vo i vc) i xs ?hs hown1 #[.int .i64 k2, .int .i64 n2, .slice o2 len2 cap2] ?hx ?hnn ?c1 ?c2 ?c3 ?_; (case hgd => rfl); (case hop => rfl); (case hs => rfl); (case hx => rfl); (case hnn => rfl); (case c1 => simp [Value.oneCell']); (case c2 => (unfold maxLen; omega)); (case c3 => omega); intro gg c' w2 ho hf hg2; refine with_fr3 (B := B) hfr1 hf HLO.out ?_; intro hfr2; have hbc2 := blk_fr hf HOC.out hbc1; refine box_use hbc2 ?_; intro x0 x1 x2 y0 y1 y2 _)
            | (refine step_append_one w1.drew ?hgd (.tmp 32) (.tmp 40) 22 ?hop 24 _ 3 40 elemTy (.slice vo i vc) i xs ?hs (ownsRow_fr hown1 (Fr.drew (fun _ => False) _) (fun _ _ h => h)) #[.int .i64 k2, .int .i64 n2, .slice o2 len2 cap2] ?hx ?hnn ?c1 ?c2 ?c3 ?_; (case hgd => rfl); (case hop => rfl); (case hs => rfl); (case hx => rfl); (case hnn => rfl); (case c1 => simp [Value.oneCell']); (case c2 => (unfold maxLen; omega)); (case c3 => omega); intro gg c' w2 ho hf hg2; replace hqw := hqw.trans (Quiet0.drew w1); replace hs2 := hs2.fr (T := fun j => j < w0.heap.size ∨ wr.heap.size ≤ j) (Fr.drew (fun _ => False) w1) (fun j _ hj => ⟨hj, fun h => h⟩); replace hbc1 := blk_drew hbc1; replace hfr1 := hfr1.trans (Fr.drew _ w1); refine with_fr3 (B := B) hfr1 hf HLO.out ?_; intro hfr2; have hbc2 := blk_fr hf HOC.out hbc1; refine box_use hbc2 ?_; intro x0 x1 x2 y0 y1 y2 _)
            | (go_simp; go_at_call 59; (with_reducible refine Calls.mono (HC.out _ ?hq) ?_); (case hq => (repeat (first | with_reducible exact hqc | with_reducible exact Quiet0.refl _ | with_reducible refine Quiet0.trans ?_ (Quiet0.alloc _ _) | with_reducible refine Quiet0.trans ?_ (Quiet0.drew _) | fail))); rintro e w1 ⟨o2, len2, cap2, rfl, hs2, hq1⟩; refine with_q (w0 := wr) ?hq2 hq1 ?_; (case hq2 => (repeat (first | with_reducible exact hqc | with_reducible exact Quiet0.refl _ | with_reducible refine Quiet0.trans ?_ (Quiet0.alloc _ _) | with_reducible refine Quiet0.trans ?_ (Quiet0.drew _) | fail))); intro hqw; have hfr1 : Fr (fun j => B < j) wr w1 := hqw.mono (fun _ _ h => h.elim); have hbc1 := box_after HBC.out hqw; refine box_use hbc1 ?_; intro g0 g1 g2 _ _ _ _; have g2a := (Quiet0.alloc w1 (.cells #[.int .i64 k2, .int .i64 n2, .slice o2 len2 cap2] 24)).at g2; have p2w := hqw.at p2; have hown1 := ownsRow_fr HRO.out hqw (fun _ _ h => h))
            | fail)
        all_goals
          have HEND : Hid (RowX N0 C (w2.setCell ⟨C, 2, none⟩ (.slice (some ⟨gg, 0, none⟩) (i + 1) c')) (.slice (some ⟨gg, 0, none⟩) (i + 1) c') (f.app (.cons k2 n2 p2' .nil)) (xs ++ [.int .i64 k2, .int .i64 n2, .slice o2 len2 cap2]) ∧ Quiet0 w0 (w2.setCell ⟨C, 2, none⟩ (.slice (some ⟨gg, 0, none⟩) (i + 1) c')) ∧ Fr (fun j => j = C) WC (w2.setCell ⟨C, 2, none⟩ (.slice (some ⟨gg, 0, none⟩) (i + 1) c')) ∧ (w2.setCell ⟨C, 2, none⟩ (.slice (some ⟨gg, 0, none⟩) (i + 1) c')).heap[C]? = some (.cells #[.int .i64 k, .int .i64 n, .slice (some ⟨gg, 0, none⟩) (i + 1) c'] 24 (0, 0))) := by
            have hset := Fr.setCell (fun j => j = C) w2 ⟨C, 2, none⟩ (.slice (some ⟨gg, 0, none⟩) (i + 1) c') rfl
            have hf' := HF.out
            subst hf'
            have hr2 := RowX.snoc HR.out hqw (hs2.fr (T := fun j => j < N0 ∨ wr.heap.size ≤ j) (Fr.refl (fun _ => False) _) (fun j _ hj => ⟨by have h4 := HN0.out; have hj' : j < w0.heap.size ∨ wr.heap.size ≤ j := hj; show j < N0 ∨ wr.heap.size ≤ j; omega, fun h => h⟩)) HNC.out.2 hlC (Nat.le_refl _) ho hf hg2
            have hown : ∀ j, (Value.slice vo f.length vc).ownBlock = some j → C < j := fun j h => HR.out.low j h
            refine ⟨hr2.put HNC.out.2 hset, ?_, ?_, box_set2 hbc2⟩
            · exact Fr.trans' (Fr.trans' (HQ.out.trans hqw) hf (fun j hj h => by have := hown j h; have := HNC.out; omega)) hset (fun j hj h => by have h' : j = C := h; have := HNC.out; omega)
            · exact Fr.trans' (Fr.trans' (HFW.out.trans (hqw.mono (fun _ _ h => h.elim))) hf (fun j hj h => by have := hown j h; have := HCW.out; omega)) hset (fun j hj h => h)
          clear ho hf hg2 hfr2 hbc2
          go_wp2_with fail
          go_roundw
          case rel => exact ⟨i + 1, _, _, some ⟨gg, 0, none⟩, c', by go_num, by omega, by rw [Fo.app_length, HF.out]; rfl, HD.out, HEND.out.1, HEND.out.2.2.2, HEND.out.2.1, HEND.out.2.2.1⟩
          case measure => simp [intOf]; omega
      · have hlt' : ¬ (i : Int) < len := by omega
        have hil : i = len := by omega
        obtain ⟨d0, d1, d2, y0, y1, y2⟩ := box_cells3 HBZ.out
        have hap := HAP.out
        rw [Fo.drop_end ps i (by have := HL.out; omega)] at hap
        simp only [substF] at hap
        rw [Fo.app_nil] at hap
        have HFIN := Lib.hid (HR.out.slc HF.out.symm (by unfold maxLen; omega))
        rw [hap] at HFIN
        clear hap
        subst hil
        go_wp2_with fail
        clear d0 d1 d2 y0 y1 y2
        have hf := put3_fr wr (B + 1) (.int .i64 k) (.int .i64 n) (.slice vo i vc)
        obtain ⟨f0, f1, f2⟩ := put3_cells (a := .int .i64 k) (b := .int .i64 n) (c := .slice vo i vc) HBZ.out
        change bodyPost _ _ _ _ _ (put3 wr (B + 1) (.int .i64 k) (.int .i64 n) (.slice vo i vc))
        generalize put3 wr (B + 1) (.int .i64 k) (.int .i64 n) (.slice vo i vc) = wf at *
        refine bodyPost_ret (by simp [results, Tryd.results59, go_sem, f0, f1, f2]; rfl) rfl ?_
        refine ⟨vo, i, ⟨vc, rfl⟩, HFIN.out.fr hf ?_, ?_⟩
        · intro j _ hj
          have hj' : j < N0 ∨ C < j := hj
          have h1 := HNC.out
          have h2 := HBE.out
          have h3 := HCW.out
          have h4 := HN0.out
          have h5 := HQ00.out.size
          exact ⟨by show j < w0.heap.size ∨ w.heap.size ≤ j; omega, fun h => by have h' : j = B + 1 := h; omega⟩
        · exact Fr.trans' (Fr.trans' HQW.out HFW.out (fun j hj h => by have h' : j = C := h; have h3 := HCW.out; omega)) hf (fun j hj h => by have h' : j = B + 1 := h; have := HBE.out; omega)
  · rcases idxB_find n l 0 with ⟨hi1, hi2⟩ | ⟨j, t, hi1, hi2, hi3⟩
    · have hh : hit l k n = none := by unfold hit; rw [hk, hi2]; rfl
      have e1 : sK l k n = k := by unfold sK; rw [hh]
      have e2 : sN l k n = n := by unfold sN; rw [hh]
      have e3 : sP l k n ps = substF l ps := by unfold sP; rw [hh]
      rw [e1, e2, e3]
      rw [hi1] at HFN
      clear e1 e2 e3 hh hi1 hi2
      unfold tyv
      go_enter Tryd.func59, Tryd.ntmps59
      go_upto_region 1 with fail
      rw [← hW1]
      clear hW1
      generalize hB : w.heap.size = B at *
      have HBE := Lib.hid hB
      clear hB
      obtain ⟨p0, p1, p2, _, _, _⟩ := box_cells3 HBT.out
      go_wp2_with fail
      refine (HFN.out _ HQ1.out).mono ?_; rintro e W2 ⟨rfl, hq2⟩
      have HQ2 := Lib.hid (HQ1.out.trans hq2)
      have HBT2 := Lib.hid (box_after HBT.out hq2)
      have HZ2 := Lib.hid (box_after HZ1.out hq2)
      clear p0 p1 p2 hq2
      obtain ⟨p0, p1, p2, _, _, _⟩ := box_cells3 HBT2.out
      go_upto_region 7 with fail
      obtain ⟨WC, hWC⟩ : ∃ WC, WC = W2.alloc (.cells #[.int .i64 k, .int .i64 n, .slice none 0 0] 24) := ⟨_, rfl⟩
      obtain ⟨C, hC⟩ : ∃ C, C = W2.heap.size := ⟨_, rfl⟩
      have HCB : Hid (WC.heap[C]? = some (.cells #[.int .i64 k, .int .i64 n, .slice none 0 0] 24 (0, 0))) := by rw [hWC, hC]; exact heap_alloc_new _ _
      have HQ1C : Hid (Quiet0 W2 WC) := by rw [hWC]; exact Quiet0.alloc _ _
      have hCB : B + 1 < C := by have := lt_of_block HZ2.out; omega
      have HQW := Lib.hid (HQ2.out.trans HQ1C.out)
      have HQWC := Lib.hid (HQ00.out.trans HQW.out)
      have HB0 := Lib.hid (box_after HBT2.out HQ1C.out)
      have HB1 := Lib.hid (box_after HZ2.out HQ1C.out)
      obtain ⟨N0, hN0⟩ : ∃ N0, N0 = w0.heap.size := ⟨_, rfl⟩
      have HN0 := Lib.hid hN0
      have HNC : Hid (w0.heap.size ≤ C ∧ N0 ≤ C) := by have h1 := HQ00.out.size; have h2 := HQ2.out.size; rw [hN0, hC]; exact ⟨Nat.le_trans h1 h2, Nat.le_trans h1 h2⟩
      have HCW : Hid (C < WC.heap.size ∧ WC.heap.size = C + 1 ∧ w.heap.size ≤ C) := by have h2 := HQ2.out.size; rw [hWC, hC]; simp; exact h2
      change Code.wp _ _ _ _ (W2.alloc (.cells #[.int .i64 k, .int .i64 n, .slice none 0 0] 24))
      rw [← hWC]
      rw [← hC]
      clear hWC hC hN0
      clear p0 p1 p2
      go_wp2_with fail
      go_loopw [7] (fun t wr => ∃ (i : Nat) (f : Fo) (xs : List Value) (vo : Option Addr) (vc : Nat), t = .int .i64 i ∧ i ≤ len ∧ f.length = i ∧ f.app (substF l (ps.drop i)) = substF l ps ∧ RowX N0 C wr (.slice vo i vc) f xs ∧ wr.heap[C]? = some (.cells #[.int .i64 k, .int .i64 n, .slice vo i vc] 24 (0, 0)) ∧ Quiet0 w0 wr ∧ Fr (fun j => j = C) WC wr) (fun t _ => len - (intOf t).toNat)
      case atStart => exact ⟨0, .nil, [], none, 0, rfl, Nat.zero_le _, rfl, by rw [Fo.drop_zero]; rfl, RowX.nil _ _ _, HCB.out, HQWC.out, Fr.refl _ _⟩
      case round =>
        obtain ⟨i, f, xs, vo, vc, rfl, hi, hfl, hap, hrow, hbc, hq, hfw⟩ := hrel
        have HF := Lib.hid hfl
        have HAP := Lib.hid hap
        have HR := Lib.hid hrow
        have HBC := Lib.hid hbc
        have HQ := Lib.hid hq
        have HFW := Lib.hid hfw
        have hbb : wr.heap[B]? = some (.cells #[.int .i64 k, .int .i64 n, .slice o len cap] 24 (0, 0)) := blk_fr hfw (fun h => by have h' : B = C := h; omega) HB0.out
        have hbz : wr.heap[B + 1]? = some (.cells #[.int .i64 0, .int .i64 0, .slice none 0 0] 24 (0, 0)) := blk_fr hfw (fun h => by have h' : B + 1 = C := h; omega) HB1.out
        have HBZ := Lib.hid hbz
        obtain ⟨p0, p1, p2, _, _, _⟩ := box_cells3 hbb
        obtain ⟨g0, g1, g2, _, _, _⟩ := box_cells3 hbc
        have HSW : Hid (Slc wr o len ps) := (HS.out.lt.fr (T := fun j => j < B) (Fr.trans' (HQW.out.mono (fun _ _ h => h.elim)) hfw (fun j _ h => h)) (fun j _ hj => ⟨HBE.out ▸ hj, fun h => by have h' : j = C := h; have h2 : j < w.heap.size := hj; have := HBE.out; omega⟩)).slc
        clear hfl hap hrow hbc hq hfw hbb hbz
        by_cases hlt : i < len
        · have hlt' : (i : Int) < len := by omega
          obtain ⟨bb, off, k1, n1, qs, o1, len1, cap1, rfl, hd, hg, e0, e1, e2, hs1⟩ := HSW.out.nth hlt
          obtain ⟨_, _, _, _, _, _, _, _, hoo, _, _, f0, _, _, _⟩ := HS.out.nth hlt
          have hbl : bb < B := by cases hoo; have := World.block_lt_of_cell? _ _ f0; have := HBE.out; simp at *; omega
          have hsq := Fo.size_get ps i k1 n1 qs hg
          have HC : Hid (∀ W, Quiet0 wr W → Calls Tryd.prog 59 #[.slice a l.length c, .agg #[.int .i64 k1, .int .i64 n1, .slice o1 len1 cap1]] W fun e w' => ∃ o' len' cap', e = .returned (.agg #[.int .i64 (sK l k1 n1), .int .i64 (sN l k1 n1), .slice o' len' cap']) ∧ SlcIn (fun j => j < w0.heap.size ∨ wr.heap.size ≤ j) w' o' len' (sP l k1 n1 qs) ∧ Quiet0 W w') := by
            intro W hq
            refine (IH.out i k1 n1 qs hg W o1 len1 cap1 (HQ.out.trans hq) (hs1.stay hq) (by omega)).mono ?_
            rintro e w' ⟨o', l', c', rfl, h1, h2⟩
            exact ⟨o', l', c', rfl, h1.fr (Fr.refl (fun _ => False) _) (fun j _ hj => ⟨by have h3 := hq.size; have hj' : j < w0.heap.size ∨ W.heap.size ≤ j := hj; show j < w0.heap.size ∨ wr.heap.size ≤ j; omega, fun h => h⟩), h2⟩
          have HD : Hid ((f.app (.cons (sK l k1 n1) (sN l k1 n1) (sP l k1 n1 qs) .nil)).app (substF l (ps.drop (i + 1))) = substF l ps) := by
            show _ = _
            rw [← HAP.out, hd, Fo.app_assoc, substF_cons]; rfl
          have HRO : Hid (wr.ownsRow 0 24 3 (.slice vo i vc) i xs) := by
            have h := HR.out.own
            rw [HF.out] at h
            exact h
          have HLO : Hid (∀ j, (Value.slice vo i vc).ownBlock = some j → B < j) := fun j h => by have := HR.out.low j h; omega
          have HOC : Hid (¬ (fun j => (Value.slice vo i vc).ownBlock = some j) C) := fun h => by have := HR.out.low C h; omega
          have hlC := lt_of_block HBC.out
          have hBC : B < C := by omega
          clear hd hg hs1 hsq hoo f0
          generalize sK l k1 n1 = k2 at *
          generalize sN l k1 n1 = n2 at *
          generalize sP l k1 n1 qs = p2' at *
          have hqc := Quiet0.refl wr
          have hfr1 := Fr.refl (fun j => B < j) wr
          have hfr2 := Fr.refl (fun j => B < j) wr
          go_wp2_with fail
          go_region_law (first
              | (refine step_append_one w1 ?hgd (.tmp 32) (.tmp 40) 22 ?hop 24 _ 3 40 elemTy (.slice vo i vc) i xs ?hs hown1 #[.int .i64 k2, .int .i64 n2, .slice o2 len2 cap2] ?hx ?hnn ?c1 ?c2 ?c3 ?_; (case hgd => rfl); (case hop => rfl); (case hs => rfl); (case hx => rfl); (case hnn => rfl); (case c1 => simp [Value.oneCell']); (case c2 => (unfold maxLen; omega)); (case c3 => omega); intro gg c' w2 ho hf hg2; refine with_fr3 (B := B) hfr1 hf HLO.out ?_; intro hfr2; have hbc2 := blk_fr hf HOC.out hbc1; refine box_use hbc2 ?_; intro x0 x1 x2 y0 y1 y2 _)
              | (refine step_append_one w1.drew ?hgd (.tmp 32) (.tmp 40) 22 ?hop 24 _ 3 40 elemTy (.slice vo i vc) i xs ?hs (ownsRow_fr hown1 (Fr.drew (fun _ => False) _) (fun _ _ h => h)) #[.int .i64 k2, .int .i64 n2, .slice o2 len2 cap2] ?hx ?hnn ?c1 ?c2 ?c3 ?_; (case hgd => rfl); (case hop => rfl); (case hs => rfl); (case hx => rfl); (case hnn => rfl); (case c1 => simp [Value.oneCell']); (case c2 => (unfold maxLen; omega)); (case c3 => omega); intro gg c' w2 ho hf hg2; replace hqw := hqw.trans (Quiet0.drew w1); replace hs2 := hs2.fr (T := fun j => j < w0.heap.size ∨ wr.heap.size ≤ j) (Fr.drew (fun _ => False) w1) (fun j _ hj => ⟨hj, fun h => h⟩); replace hbc1 := blk_drew hbc1; replace hfr1 := hfr1.trans (Fr.drew _ w1); refine with_fr3 (B := B) hfr1 hf HLO.out ?_; intro hfr2; have hbc2 := blk_fr hf HOC.out hbc1; refine box_use hbc2 ?_; intro x0 x1 x2 y0 y1 y2 _)
              | (go_simp; go_at_call 59; (with_reducible refine Calls.mono (HC.out _ ?hq) ?_); (case hq => (repeat (first | with_reducible exact hqc | with_reducible exact Quiet0.refl _ | with_reducible refine Quiet0.trans ?_ (Quiet0.alloc _ _) | with_reducible refine Quiet0.trans ?_ (Quiet0.drew _) | fail))); rintro e w1 ⟨o2, len2, cap2, rfl, hs2, hq1⟩; refine with_q (w0 := wr) ?hq2 hq1 ?_; (case hq2 => (repeat (first | with_reducible exact hqc | with_reducible exact Quiet0.refl _ | with_reducible refine Quiet0.trans ?_ (Quiet0.alloc _ _) | with_reducible refine Quiet0.trans ?_ (Quiet0.drew _) | fail))); intro hqw; have hfr1 : Fr (fun j => B < j) wr w1 := hqw.mono (fun _ _ h => h.elim); have hbc1 := box_after HBC.out hqw; refine box_use hbc1 ?_; intro g0 g1 g2 _ _ _ _; have g2a := (Quiet0.alloc w1 (.cells #[.int .i64 k2, .int .i64 n2, .slice o2 len2 cap2] 24)).at g2; have p2w := hqw.at p2; have hown1 := ownsRow_fr HRO.out hqw (fun _ _ h => h))
              | fail)
          all_goals
            have HEND : Hid (RowX N0 C (w2.setCell ⟨C, 2, none⟩ (.slice (some ⟨gg, 0, none⟩) (i + 1) c')) (.slice (some ⟨gg, 0, none⟩) (i + 1) c') (f.app (.cons k2 n2 p2' .nil)) (xs ++ [.int .i64 k2, .int .i64 n2, .slice o2 len2 cap2]) ∧ Quiet0 w0 (w2.setCell ⟨C, 2, none⟩ (.slice (some ⟨gg, 0, none⟩) (i + 1) c')) ∧ Fr (fun j => j = C) WC (w2.setCell ⟨C, 2, none⟩ (.slice (some ⟨gg, 0, none⟩) (i + 1) c')) ∧ (w2.setCell ⟨C, 2, none⟩ (.slice (some ⟨gg, 0, none⟩) (i + 1) c')).heap[C]? = some (.cells #[.int .i64 k, .int .i64 n, .slice (some ⟨gg, 0, none⟩) (i + 1) c'] 24 (0, 0))) := by
              have hset := Fr.setCell (fun j => j = C) w2 ⟨C, 2, none⟩ (.slice (some ⟨gg, 0, none⟩) (i + 1) c') rfl
              have hf' := HF.out
              subst hf'
              have hr2 := RowX.snoc HR.out hqw (hs2.fr (T := fun j => j < N0 ∨ wr.heap.size ≤ j) (Fr.refl (fun _ => False) _) (fun j _ hj => ⟨by have h4 := HN0.out; have hj' : j < w0.heap.size ∨ wr.heap.size ≤ j := hj; show j < N0 ∨ wr.heap.size ≤ j; omega, fun h => h⟩)) HNC.out.2 hlC (Nat.le_refl _) ho hf hg2
              have hown : ∀ j, (Value.slice vo f.length vc).ownBlock = some j → C < j := fun j h => HR.out.low j h
              refine ⟨hr2.put HNC.out.2 hset, ?_, ?_, box_set2 hbc2⟩
              · exact Fr.trans' (Fr.trans' (HQ.out.trans hqw) hf (fun j hj h => by have := hown j h; have := HNC.out; omega)) hset (fun j hj h => by have h' : j = C := h; have := HNC.out; omega)
              · exact Fr.trans' (Fr.trans' (HFW.out.trans (hqw.mono (fun _ _ h => h.elim))) hf (fun j hj h => by have := hown j h; have := HCW.out; omega)) hset (fun j hj h => h)
            clear ho hf hg2 hfr2 hbc2
            go_wp2_with fail
            go_roundw
            case rel => exact ⟨i + 1, _, _, some ⟨gg, 0, none⟩, c', by go_num, by omega, by rw [Fo.app_length, HF.out]; rfl, HD.out, HEND.out.1, HEND.out.2.2.2, HEND.out.2.1, HEND.out.2.2.1⟩
            case measure => simp [intOf]; omega
        · have hlt' : ¬ (i : Int) < len := by omega
          have hil : i = len := by omega
          obtain ⟨d0, d1, d2, y0, y1, y2⟩ := box_cells3 HBZ.out
          have hap := HAP.out
          rw [Fo.drop_end ps i (by have := HL.out; omega)] at hap
          simp only [substF] at hap
          rw [Fo.app_nil] at hap
          have HFIN := Lib.hid (HR.out.slc HF.out.symm (by unfold maxLen; omega))
          rw [hap] at HFIN
          clear hap
          subst hil
          go_wp2_with fail
          clear d0 d1 d2 y0 y1 y2
          have hf := put3_fr wr (B + 1) (.int .i64 k) (.int .i64 n) (.slice vo i vc)
          obtain ⟨f0, f1, f2⟩ := put3_cells (a := .int .i64 k) (b := .int .i64 n) (c := .slice vo i vc) HBZ.out
          change bodyPost _ _ _ _ _ (put3 wr (B + 1) (.int .i64 k) (.int .i64 n) (.slice vo i vc))
          generalize put3 wr (B + 1) (.int .i64 k) (.int .i64 n) (.slice vo i vc) = wf at *
          refine bodyPost_ret (by simp [results, Tryd.results59, go_sem, f0, f1, f2]; rfl) rfl ?_
          refine ⟨vo, i, ⟨vc, rfl⟩, HFIN.out.fr hf ?_, ?_⟩
          · intro j _ hj
            have hj' : j < N0 ∨ C < j := hj
            have h1 := HNC.out
            have h2 := HBE.out
            have h3 := HCW.out
            have h4 := HN0.out
            have h5 := HQ00.out.size
            exact ⟨by show j < w0.heap.size ∨ w.heap.size ≤ j; omega, fun h => by have h' : j = B + 1 := h; omega⟩
          · exact Fr.trans' (Fr.trans' HQW.out HFW.out (fun j hj h => by have h' : j = C := h; have h3 := HCW.out; omega)) hf (fun j hj h => by have h' : j = B + 1 := h; have := HBE.out; omega)
    · have hh : hit l k n = some t := by unfold hit; rw [hk, hi3]; rfl
      have e1 : sK l k n = t.2.1 := by unfold sK; rw [hh]
      have e2 : sN l k n = t.2.2.1 := by unfold sN; rw [hh]
      have e3 : sP l k n ps = t.2.2.2 := by unfold sP; rw [hh]
      rw [e1, e2, e3]
      rw [Nat.zero_add] at hi1
      rw [hi1] at HFN
      have hjl : (j : Int) < l.length := by have := (List.getElem?_eq_some_iff.1 hi2).1; omega
      have hj0 : (0 : Int) ≤ j := by omega
      have hjn : j < l.length := by omega
      have HI2 := Lib.hid hi2
      clear e1 e2 e3 hh hi1 hi2 hi3
      obtain ⟨uk, huk⟩ : ∃ uk, uk = t.2.1 := ⟨_, rfl⟩
      obtain ⟨un, hun⟩ : ∃ un, un = t.2.2.1 := ⟨_, rfl⟩
      rw [← huk, ← hun]
      have HUK := Lib.hid huk
      have HUN := Lib.hid hun
      clear huk hun
      unfold tyv
      go_enter Tryd.func59, Tryd.ntmps59
      go_upto_region 1 with fail
      rw [← hW1]
      clear hW1
      generalize hB : w.heap.size = B at *
      have HBE := Lib.hid hB
      clear hB
      obtain ⟨p0, p1, p2, _, _, _⟩ := box_cells3 HBT.out
      go_wp2_with fail
      refine (HFN.out _ HQ1.out).mono ?_; rintro e W2 ⟨rfl, hq2⟩
      have HQ2 := Lib.hid (HQ1.out.trans hq2)
      have HZ2 := Lib.hid (box_after HZ1.out hq2)
      clear p0 p1 p2
      obtain ⟨bb, off, o1, len1, cap1, rfl, e0, e1, e2, e3, hs1⟩ := (HBD.out.stay (HQ00.out.trans HQ2.out)) j t HI2.out
      obtain ⟨bb', off', o1', len1', cap1', hoo, _, _, _, f3, hs0⟩ := HBD.out j t HI2.out
      cases hoo
      have f3' := (HQ00.out.trans HQ2.out).at f3
      rw [e3] at f3'
      cases f3'
      have HSR : Hid (SlcIn (fun x => x < w0.heap.size) W2 o1 len1 t.2.2.2) := hs0.lt.fr (HQ00.out.trans HQ2.out) (fun x _ hx => ⟨hx, fun h => h⟩)
      obtain ⟨d0, d1, d2, y0, y1, y2⟩ := box_cells3 HZ2.out
      rw [← HUK.out] at e1
      rw [← HUN.out] at e2
      clear hq2 f3 hs0 hs1
      go_wp2_with fail
      clear d0 d1 d2 y0 y1 y2
      have hf := put3_fr W2 (B + 1) (.int .i64 uk) (.int .i64 un) (.slice o1 len1 cap1)
      obtain ⟨f0, f1, f2⟩ := put3_cells (a := .int .i64 uk) (b := .int .i64 un) (c := .slice o1 len1 cap1) HZ2.out
      change bodyPost _ _ _ _ _ (put3 W2 (B + 1) (.int .i64 uk) (.int .i64 un) (.slice o1 len1 cap1))
      generalize put3 W2 (B + 1) (.int .i64 uk) (.int .i64 un) (.slice o1 len1 cap1) = wf at *
      refine bodyPost_ret (by simp [results, Tryd.results59, go_sem, f0, f1, f2]; rfl) rfl ?_
      refine ⟨o1, len1, cap1, rfl, ?_, ?_⟩
      · exact HSR.out.fr hf (fun x _ hx => ⟨.inl hx, fun h => by have hx' : x < w0.heap.size := hx; have h' : x = B + 1 := h; have h1 := HQ00.out.size; have h2 := HBE.out; omega⟩)
      · exact Fr.trans' HQ2.out hf (fun j hj h => by have h' : j = B + 1 := h; have := HBE.out; omega)
end Go.Proofs.YtggidhgifaekbaaDoor
/-
  Equations in memory; slices.IndexFunc and ContainsFunc on them. Conditions: the rows lie in memory as told.
-/
namespace Go.Proofs.YtggidhgifaekbaaDoor
open Go.RowKit Go.Maps

/-- an equation: two types, and a span -/
abbrev Eqn := (Int × Int × Fo) × (Int × Int × Fo) × Int × Int
def eqv (t : Eqn) (o1 : Option Addr) (l1 c1 : Nat) (o2 : Option Addr) (l2 c2 : Nat) : Value :=
  .agg #[.int .i64 t.1.1, .int .i64 t.1.2.1, .slice o1 l1 c1, .int .i64 t.2.1.1, .int .i64 t.2.1.2.1, .slice o2 l2 c2, .int .i64 t.2.2.1, .int .i64 t.2.2.2]
def EqsAt (w : World) (o : Option Addr) (l : List Eqn) : Prop := ∀ i t, l[i]? = some t → ∃ b off o1 l1 c1 o2 l2 c2, o = some ⟨b, off, none⟩ ∧
  w.cell? ⟨b, off + i * 8, none⟩ = some (.int .i64 t.1.1) ∧ w.cell? ⟨b, off + i * 8 + 1, none⟩ = some (.int .i64 t.1.2.1) ∧ w.cell? ⟨b, off + i * 8 + 2, none⟩ = some (.slice o1 l1 c1) ∧
  w.cell? ⟨b, off + i * 8 + 3, none⟩ = some (.int .i64 t.2.1.1) ∧ w.cell? ⟨b, off + i * 8 + 4, none⟩ = some (.int .i64 t.2.1.2.1) ∧ w.cell? ⟨b, off + i * 8 + 5, none⟩ = some (.slice o2 l2 c2) ∧
  w.cell? ⟨b, off + i * 8 + 6, none⟩ = some (.int .i64 t.2.2.1) ∧ w.cell? ⟨b, off + i * 8 + 7, none⟩ = some (.int .i64 t.2.2.2) ∧ Slc w o1 l1 t.1.2.2 ∧ Slc w o2 l2 t.2.1.2.2
theorem EqsAt.stay {w w' : World} {o : Option Addr} {l : List Eqn} (h : EqsAt w o l) (hq : Quiet0 w w') : EqsAt w' o l := by
  intro i t ht
  obtain ⟨b, off, o1, l1, c1, o2, l2, c2, h0, a0, a1, a2, a3, a4, a5, a6, a7, s1, s2⟩ := h i t ht
  exact ⟨b, off, o1, l1, c1, o2, l2, c2, h0, hq.at a0, hq.at a1, hq.at a2, hq.at a3, hq.at a4, hq.at a5, hq.at a6, hq.at a7, s1.stay hq, s2.stay hq⟩
def idxE (p : Eqn → Bool) : List Eqn → Nat → Int
  | [], _ => -1
  | t :: r, i => if p t then i else idxE p r (i + 1)
theorem idxE_any (p : Eqn → Bool) : ∀ (l : List Eqn) (i : Nat), decide (0 ≤ idxE p l i) = l.any p
  | [], i => rfl
  | t :: r, i => by
    unfold idxE
    rw [List.any_cons]
    cases h : p t
    · simp only [Bool.false_eq_true, if_false, Bool.false_or]; exact idxE_any p r (i + 1)
    · simp
def PredEq (g : Nat) (lb : Array Value) (w0 : World) (l : List Eqn) (p : Eqn → Bool) : Prop := ∀ t ∈ l, ∀ (W : World) (o1 : Option Addr) (l1 c1 : Nat) (o2 : Option Addr) (l2 c2 : Nat), Quiet0 w0 W → Slc W o1 l1 t.1.2.2 → Slc W o2 l2 t.2.1.2.2 →
  Calls Tryd.prog g (#[eqv t o1 l1 c1 o2 l2 c2] ++ lb) W fun e W' => e = .returned (.bool (p t)) ∧ Quiet0 W W'
set_option maxHeartbeats 1000000 in
theorem indexEq_any (g : Nat) (lb : Array Value) (p : Eqn → Bool) (eg : ∀ args w, (callFunc g args).run Tryd.prog w = .ok (.enter g args) w) (l : List Eqn) (o : Option Addr) (cap : Nat) (w : World) (hs : EqsAt w o l) (hp : PredEq g lb w l p) (hz : l.length ≤ 1000000) :
    Calls Tryd.prog 118 #[.slice o l.length cap, .func (.func g) #[] lb] w fun e w' => e = .returned (.int .i64 (idxE p l 0)) ∧ Quiet0 w w' := by
  have HS := Lib.hid hs
  have HP := Lib.hid hp
  clear hs hp
  obtain ⟨res, hres⟩ : ∃ res, res = idxE p l 0 := ⟨_, rfl⟩
  have HR := Lib.hid hres
  rw [← hres]
  clear hres
  go_enter Tryd.func118, Tryd.ntmps118
  go_wp2_with fail
  go_loopw [8] (fun t wr => ∃ i : Nat, t = .int .i64 i ∧ i ≤ l.length ∧ res = idxE p (l.drop i) i ∧ Quiet0 w wr) (fun t _ => l.length - (intOf t).toNat)
  case atStart => exact ⟨0, rfl, Nat.zero_le _, HR.out, Quiet0.refl _⟩
  case round =>
    obtain ⟨i, rfl, hi, hr, hq⟩ := hrel
    have HRR := Lib.hid hr
    have HQ := Lib.hid hq
    clear hr hq
    by_cases hlt : i < l.length
    · have hlt' : (i : Int) < l.length := by omega
      obtain ⟨t, ht⟩ : ∃ t, l[i]? = some t := ⟨_, List.getElem?_eq_getElem hlt⟩
      obtain ⟨b, off, o1, l1, c1, o2, l2, c2, rfl, a0, a1, a2, a3, a4, a5, a6, a7, s1, s2⟩ := HS.out.stay HQ.out i t ht
      have HN : Hid (res = if p t then (i : Int) else idxE p (l.drop (i + 1)) (i + 1)) := by
        show _ = _
        rw [HRR.out, drop_some ht]; rfl
      have HC := Lib.hid (HP.out t (List.mem_of_getElem? ht) wr o1 l1 c1 o2 l2 c2 HQ.out s1 s2)
      unfold eqv at HC
      clear ht s1 s2
      cases hb : p t
      all_goals
        rw [hb] at HC HN
        clear hb
        go_wp2_with fail
        refine HC.out.mono ?_; rintro e w1 ⟨rfl, hq1⟩
        have HQ1 := Lib.hid (HQ.out.trans hq1)
        clear hq1
        go_wp2_with fail
      · go_roundw
        case rel => exact ⟨i + 1, by go_num, by omega, HN.out, HQ1.out⟩
        case measure => simp [intOf]; omega
      · go_ret
        exact ⟨by rw [HN.out]; rfl, HQ1.out⟩
    · have hlt' : ¬ (i : Int) < l.length := by omega
      have HY : Hid (res = -1) := by show _ = _; rw [HRR.out, List.drop_of_length_le (by omega)]; rfl
      go_wp2_with fail
      go_ret
      exact ⟨by rw [HY.out]; rfl, HQ.out⟩
theorem containsEq_any (g : Nat) (lb : Array Value) (p : Eqn → Bool) (eg : ∀ args w, (callFunc g args).run Tryd.prog w = .ok (.enter g args) w) (l : List Eqn) (o : Option Addr) (cap : Nat) (w : World) (hs : EqsAt w o l) (hp : PredEq g lb w l p) (hz : l.length ≤ 1000000) :
    Calls Tryd.prog 86 #[.slice o l.length cap, .func (.func g) #[] lb] w fun e w' => e = .returned (.bool (l.any p)) ∧ Quiet0 w w' := by
  have HC := Lib.hid (indexEq_any g lb p eg l o cap w hs hp hz)
  rw [← idxE_any p l 0]
  clear hs hp eg
  generalize idxE p l 0 = r at *
  go_enter Tryd.func86, Tryd.ntmps86
  go_wp2_with fail
  refine HC.out.mono ?_; rintro e w1 ⟨rfl, hq⟩
  go_wp2_with fail
  go_ret
  exact ⟨rfl, hq⟩
end Go.Proofs.YtggidhgifaekbaaDoor
/-
  The program's Same on types, with slices.EqualFunc. Condition: the types lie in memory as told.
-/
namespace Go.Proofs.YtggidhgifaekbaaDoor
open Go.RowKit

theorem eg_same : ∀ args w, (callFunc 52 args).run Tryd.prog w = .ok (.enter 52 args) w := enters_of Tryd.func52 (by kernel_rfl) rfl
def PSame (k n : Int) (ps : Fo) : Prop := ∀ (k' n' : Int) (ps' : Fo) (w : World) (o : Option Addr) (len cap : Nat) (o' : Option Addr) (len' cap' : Nat), Slc w o len ps → Slc w o' len' ps' →
  Calls Tryd.prog 52 #[tyv k n o len cap, tyv k' n' o' len' cap'] w fun e w' => e = .returned (.bool (sameT k n ps k' n' ps')) ∧ Quiet0 w w'
set_option maxRecDepth 100000 in
set_option maxHeartbeats 2000000 in
theorem equalFunc_any (ps ps' : Fo) (ih : ∀ i k n qs, ps.get i = some (k, n, qs) → PSame k n qs) (w : World) (o : Option Addr) (len cap : Nat) (o' : Option Addr) (len' cap' : Nat) (hs : Slc w o len ps) (hs' : Slc w o' len' ps') :
    Calls Tryd.prog 94 #[.slice o len cap, .slice o' len' cap', .func (.func 52) #[] #[]] w fun e w' => e = .returned (.bool (ps.same ps')) ∧ Quiet0 w w' := by
  have HS := Lib.hid hs
  have HS' := Lib.hid hs'
  have IH := Lib.hid ih
  have HL := Lib.hid hs.1
  have HL' := Lib.hid hs'.1
  have hmx := hs.2.1
  unfold maxLen at hmx
  have eg := eg_same
  clear hs hs' ih
  obtain ⟨res, hres⟩ : ∃ res, res = ps.same ps' := ⟨_, rfl⟩
  have HRES := Lib.hid hres
  rw [← hres]
  clear hres
  by_cases hlen : len = len'
  · subst hlen
    have b3 : ((len : Int) != (len : Int)) = false := by simp
    go_enter Tryd.func94, Tryd.ntmps94
    go_wp2_with fail
    go_loopw [17] (fun t wr => ∃ (i : Nat), t = .int .i64 i ∧ i ≤ len ∧ res = (ps.drop i).same (ps'.drop i) ∧ Quiet0 w wr) (fun t _ => len - (intOf t).toNat)
    case atStart => exact ⟨0, rfl, Nat.zero_le _, by rw [Fo.drop_zero, Fo.drop_zero]; exact HRES.out, Quiet0.refl _⟩
    case round =>
      obtain ⟨i, rfl, hi, hr, hq⟩ := hrel
      have HR := Lib.hid hr
      have HQ := Lib.hid hq
      clear hr hq
      by_cases hlt : i < len
      · have hlt' : (i : Int) < len := by omega
        obtain ⟨b, off, k1, n1, qs1, o1, len1, cap1, rfl, hd1, hg1, e0, e1, e2, hs1⟩ := (HS.out.stay HQ.out).nth hlt
        obtain ⟨b2, off2, k2, n2, qs2, o2, len2, cap2, rfl, hd2, hg2, f0, f1, f2, hs2⟩ := (HS'.out.stay HQ.out).nth hlt
        have hbl := World.block_lt_of_cell? _ _ e0
        have hbl2 := World.block_lt_of_cell? _ _ f0
        have HC := Lib.hid (fun (W : World) (hq : Quiet0 wr W) => IH.out i k1 n1 qs1 hg1 k2 n2 qs2 W o1 len1 cap1 o2 len2 cap2 (hs1.stay hq) (hs2.stay hq))
        have HN : Hid (res = (sameT k1 n1 qs1 k2 n2 qs2 && (ps.drop (i + 1)).same (ps'.drop (i + 1)))) := by
          show _ = _
          rw [HR.out, hd1, hd2, same_cons]
        unfold tyv at HC
        clear hd1 hg1 hs1 hd2 hg2 hs2
        cases hb : sameT k1 n1 qs1 k2 n2 qs2
        all_goals
          have HBV := Lib.hid hb
          rw [hb] at HC
          clear hb
          go_wp2_with fail
          refine (HC.out _ ((Quiet0.alloc _ _).trans (Quiet0.alloc _ _))).mono ?_; rintro e w1 ⟨rfl, hq1⟩
          have HQ1 := Lib.hid (HQ.out.trans (((Quiet0.alloc _ _).trans (Quiet0.alloc _ _)).trans hq1))
          clear hq1
          go_wp2_with fail
        · go_ret
          exact ⟨by rw [HN.out, HBV.out]; rfl, HQ1.out⟩
        · go_roundw
          case rel => exact ⟨i + 1, by go_num, by omega, by rw [HN.out, HBV.out]; rfl, HQ1.out⟩
          case measure => simp [intOf]; omega
      · have hlt' : ¬ (i : Int) < len := by omega
        have HY : Hid (res = true) := by
          show _ = _
          rw [HR.out, Fo.drop_end ps i (by have := HL.out; omega), Fo.drop_end ps' i (by have := HL'.out; omega)]; rfl
        go_wp2_with fail
        go_ret
        exact ⟨by rw [HY.out]; rfl, HQ.out⟩
  · have HF : Hid (res = false) := by
      show _ = _
      rw [HRES.out]
      cases h : ps.same ps'
      · rfl
      · exact absurd (Fo.same_length _ _ h) (by have := HL.out; have := HL'.out; omega)
    have b3 : ((len : Int) != (len' : Int)) = true := by simp; omega
    go_enter Tryd.func94, Tryd.ntmps94
    go_wp2_with fail
    go_ret
    exact ⟨by rw [HF.out]; rfl, Quiet0.refl _⟩
set_option maxHeartbeats 1000000 in
theorem same_any (k n : Int) (ps : Fo) : PSame k n ps := by
  refine Fo.ind' (T := PSame) ?_ k n ps
  intro k n ps ih k' n' ps' w o len cap o' len' cap' hs hs'
  have HC := Lib.hid (fun (W : World) (hq : Quiet0 w W) => equalFunc_any ps ps' ih W o len cap o' len' cap' (hs.stay hq) (hs'.stay hq))
  unfold sameT
  clear hs hs' ih
  generalize ps.same ps' = r at *
  cases hk : (k == k')
  · unfold tyv
    go_enter Tryd.func52, Tryd.ntmps52
    go_wp2_with fail
    go_ret
    exact ⟨rfl, (Quiet0.alloc _ _).trans (Quiet0.alloc _ _)⟩
  · cases hn : (n == n')
    · unfold tyv
      go_enter Tryd.func52, Tryd.ntmps52
      go_wp2_with fail
      go_ret
      exact ⟨rfl, (Quiet0.alloc _ _).trans (Quiet0.alloc _ _)⟩
    · unfold tyv
      go_enter Tryd.func52, Tryd.ntmps52
      go_wp2_with fail
      refine (HC.out _ ((Quiet0.alloc _ _).trans (Quiet0.alloc _ _))).mono ?_; rintro e w1 ⟨rfl, hq1⟩
      go_wp2_with fail
      go_ret
      exact ⟨by simp, ((Quiet0.alloc _ _).trans (Quiet0.alloc _ _)).trans hq1⟩
end Go.Proofs.YtggidhgifaekbaaDoor
/-
  Does a substitution solve equations: the program and the reference. Conditions: the binds and the equations lie in memory as told; their numbers are in range; they are small.
-/
namespace Go.Proofs.YtggidhgifaekbaaDoor
open Go.RowKit Go.Maps

theorem with_st {w W w3 : World} {o : Option Addr} {len : Nat} {f : Fo} {G : Prop} (h : Slc w o len f) (hq : Quiet0 w W) (hqx : Quiet0 W w3) (k : Slc w3 o len f → G) : G := k (h.stay (hq.trans hqx))
def eqP (l : List Bd) (t : Eqn) : Bool := sameT (sK l t.1.1 t.1.2.1) (sN l t.1.1 t.1.2.1) (sP l t.1.1 t.1.2.1 t.1.2.2) (sK l t.2.1.1 t.2.1.2.1) (sN l t.2.1.1 t.2.1.2.1) (sP l t.2.1.1 t.2.1.2.1 t.2.1.2.2)
/-- the program's apply on a type that lies in memory -/
theorem apply_of (l : List Bd) (hl : ∀ t ∈ l, t.2.2.2.size ≤ 1000000) (k n : Int) (ps : Fo) (hz : ps.size ≤ 1000000) (hn : wfI n) (hw : wfF ps) (k' n' : Int) (ps' : Fo) (e1 : sK l k n = k') (e2 : sN l k n = n') (e3 : sP l k n ps = ps')
    (W : World) (o : Option Addr) (len cap b m : Nat) (q : Int → Option Value) (hm : MapT W b m q) (ht : TabAt W q (findB l)) (hs : Slc W o len ps) :
    Calls Tryd.prog 88 #[.map (some b), .agg #[.int .i64 k, .int .i64 n, .slice o len cap]] W fun e w' => ∃ o' len' cap', e = .returned (.agg #[.int .i64 k', .int .i64 n', .slice o' len' cap']) ∧ Slc w' o' len' ps' ∧ Quiet0 W w' := by
  subst e1 e2 e3
  refine (apply_any l hl k n ps W o len cap b m q hm ht hs hz hn hw).mono ?_
  rintro e w' ⟨o', len', cap', rfl, h1, h2⟩
  exact ⟨o', len', cap', rfl, h1.slc, h2⟩
theorem eg_solves : ∀ args w, (callFunc 87 args).run Tryd.prog w = .ok (.enter 87 args) w := enters_of Tryd.func87 (by kernel_rfl) rfl
set_option maxHeartbeats 4000000 in
set_option maxRecDepth 100000 in
theorem solves1_any (l : List Bd) (hl : ∀ t ∈ l, t.2.2.2.size ≤ 1000000) (w0 : World) (cs b m : Nat) (q : Int → Option Value) (h1 : Box1 w0 cs (.map (some b)) 94) (h2 : MapT w0 b m q) (h3 : TabAt w0 q (findB l)) (es : List Eqn)
    (hes : ∀ t ∈ es, (t.1.2.2.size ≤ 1000000 ∧ wfI t.1.2.1 ∧ wfF t.1.2.2) ∧ t.2.1.2.2.size ≤ 1000000 ∧ wfI t.2.1.2.1 ∧ wfF t.2.1.2.2) : PredEq 87 #[.pointer (some ⟨cs, 0, none⟩)] w0 es (fun t => !eqP l t) := by
  intro t ht W o1 l1 c1 o2 l2 c2 hq hs1 hs2
  obtain ⟨⟨z1, n1, f1⟩, z2, n2, f2⟩ := hes t ht
  have HA1 := Lib.hid (fun (W' : World) (h : Quiet0 W W') => apply_of l hl t.1.1 t.1.2.1 t.1.2.2 z1 n1 f1 _ _ _ rfl rfl rfl W' o1 l1 c1 b m q (h2.stay (hq.trans h)) (h3.stay (hq.trans h)) (hs1.stay h))
  have HA2 := Lib.hid (fun (W' : World) (h : Quiet0 W W') => apply_of l hl t.2.1.1 t.2.1.2.1 t.2.1.2.2 z2 n2 f2 _ _ _ rfl rfl rfl W' o2 l2 c2 b m q (h2.stay (hq.trans h)) (h3.stay (hq.trans h)) (hs2.stay h))
  show Calls _ _ _ W fun e W' => e = .returned (.bool (!eqP l t)) ∧ Quiet0 W W'
  unfold eqP eqv
  generalize sK l t.1.1 t.1.2.1 = k1 at *
  generalize sN l t.1.1 t.1.2.1 = n1' at *
  generalize sP l t.1.1 t.1.2.1 t.1.2.2 = p1 at *
  generalize sK l t.2.1.1 t.2.1.2.1 = k2 at *
  generalize sN l t.2.1.1 t.2.1.2.1 = n2' at *
  generalize sP l t.2.1.1 t.2.1.2.1 t.2.1.2.2 = p2 at *
  have HSM := Lib.hid (fun (W' : World) oa la ca ob lb cb (ha : Slc W' oa la p1) (hb : Slc W' ob lb p2) => same_any k1 n1' p1 k2 n2' p2 W' oa la ca ob lb cb ha hb)
  unfold tyv at HSM
  generalize sameT k1 n1' p1 k2 n2' p2 = sm at *
  generalize t.1.1 = ka at *
  generalize t.1.2.1 = na at *
  generalize t.2.1.1 = kb at *
  generalize t.2.1.2.1 = nb at *
  generalize t.2.2.1 = sa at *
  generalize t.2.2.2 = sb at *
  have HC := Lib.hid (fun (W' : World) (h : Quiet0 W W') => cell_of_one ((h1.fr hq (fun h => h)).fr h (fun h => h)))
  clear hs1 hs2 h1 h2 h3 hes ht z1 n1 f1 z2 n2 f2
  go_enter Tryd.func87, Tryd.ntmps87
  generalize hB : W.heap.size = B at *
  go_wp2_with fail
  obtain ⟨W0, hW0⟩ : ∃ W0, W0 = W.alloc (.cells #[.int .i64 ka, .int .i64 na, .slice o1 l1 c1, .int .i64 kb, .int .i64 nb, .slice o2 l2 c2, .int .i64 sa, .int .i64 sb] 93) := ⟨_, rfl⟩
  have HB : W0.heap[B]? = some (.cells #[.int .i64 ka, .int .i64 na, .slice o1 l1 c1, .int .i64 kb, .int .i64 nb, .slice o2 l2 c2, .int .i64 sa, .int .i64 sb] 93 (0, 0)) := by rw [hW0, ← hB]; exact heap_alloc_new _ _
  have HQ0 : Hid (Quiet0 W W0) := by rw [hW0]; exact Quiet0.alloc _ _
  have HBC : Hid (∀ w', Quiet0 W0 w' → w'.cell? ⟨cs, 0, none⟩ = some (.map (some b)) ∧ (w'.cell? ⟨B, 0, none⟩ = some (.int .i64 ka) ∧ w'.cell? ⟨B, 1, none⟩ = some (.int .i64 na) ∧ w'.cell? ⟨B, 2, none⟩ = some (.slice o1 l1 c1)) ∧ w'.cell? ⟨B, 3, none⟩ = some (.int .i64 kb) ∧ w'.cell? ⟨B, 4, none⟩ = some (.int .i64 nb) ∧ w'.cell? ⟨B, 5, none⟩ = some (.slice o2 l2 c2)) := by
    intro w' h
    have hb := blk_after h HB
    refine ⟨HC.out w' (HQ0.out.trans h), ⟨?_, ?_, ?_⟩, ?_, ?_, ?_⟩ <;> (rw [cell_of_row _ _ _ _ _ (0, 0) hb]; rfl)
  rw [← hW0]
  have hqc := Quiet0.refl W0
  obtain ⟨a0, ⟨a1, a2, a3⟩, a4, a5, a6⟩ := HBC.out W0 hqc
  clear hW0 HB hq hB
  go_region_held3 (fun w' => w'.cell? ⟨cs, 0, none⟩ = some (.map (some b)) ∧ (w'.cell? ⟨B, 0, none⟩ = some (.int .i64 ka) ∧ w'.cell? ⟨B, 1, none⟩ = some (.int .i64 na) ∧ w'.cell? ⟨B, 2, none⟩ = some (.slice o1 l1 c1)) ∧ w'.cell? ⟨B, 3, none⟩ = some (.int .i64 kb) ∧ w'.cell? ⟨B, 4, none⟩ = some (.int .i64 nb) ∧ w'.cell? ⟨B, 5, none⟩ = some (.slice o2 l2 c2))
    (((refine HBC.out _ ?_); (repeat (first | with_reducible exact hqc | with_reducible exact Quiet0.refl _ | with_reducible refine Quiet0.trans ?_ (Quiet0.alloc _ _) | with_reducible refine Quiet0.trans ?_ (Quiet0.drew _) | fail))))
    (first
      | (go_at_call 88; (with_reducible refine Calls.mono (HA1.out _ (HQ0.out.trans ?hq)) ?_); (case hq => (repeat (first | with_reducible exact hqc | with_reducible exact Quiet0.refl _ | with_reducible refine Quiet0.trans ?_ (Quiet0.alloc _ _) | with_reducible refine Quiet0.trans ?_ (Quiet0.drew _) | fail))); rintro e wx ⟨oa, la, ca, rfl, hsa, hqx⟩; (try (refine with_st hsb ?hq3 hqx ?_; (case hq3 => (repeat (first | with_reducible exact Quiet0.refl _ | with_reducible refine Quiet0.trans ?_ (Quiet0.alloc _ _) | with_reducible refine Quiet0.trans ?_ (Quiet0.drew _) | fail))); intro hsb)); (refine with_q (w0 := W0) ?hq2 hqx ?_); (case hq2 => (repeat (first | with_reducible exact hqc | with_reducible exact Quiet0.refl _ | with_reducible refine Quiet0.trans ?_ (Quiet0.alloc _ _) | with_reducible refine Quiet0.trans ?_ (Quiet0.drew _) | fail))); intro hqc)
      | (go_at_call 88; (with_reducible refine Calls.mono (HA2.out _ (HQ0.out.trans ?hq)) ?_); (case hq => (repeat (first | with_reducible exact hqc | with_reducible exact Quiet0.refl _ | with_reducible refine Quiet0.trans ?_ (Quiet0.alloc _ _) | with_reducible refine Quiet0.trans ?_ (Quiet0.drew _) | fail))); rintro e wx ⟨ob, lb, cb, rfl, hsb, hqx⟩; (try (refine with_st hsa ?hq3 hqx ?_; (case hq3 => (repeat (first | with_reducible exact Quiet0.refl _ | with_reducible refine Quiet0.trans ?_ (Quiet0.alloc _ _) | with_reducible refine Quiet0.trans ?_ (Quiet0.drew _) | fail))); intro hsa)); (refine with_q (w0 := W0) ?hq2 hqx ?_); (case hq2 => (repeat (first | with_reducible exact hqc | with_reducible exact Quiet0.refl _ | with_reducible refine Quiet0.trans ?_ (Quiet0.alloc _ _) | with_reducible refine Quiet0.trans ?_ (Quiet0.drew _) | fail))); intro hqc)
      | (go_at_call 52; (with_reducible refine Calls.mono (HSM.out _ _ _ _ _ _ _ (hsa.stay ?h1) (hsb.stay ?h2)) ?_); ((case h1 => (repeat (first | with_reducible exact Quiet0.refl _ | with_reducible refine Quiet0.trans ?_ (Quiet0.alloc _ _) | with_reducible refine Quiet0.trans ?_ (Quiet0.drew _) | fail))); (case h2 => (repeat (first | with_reducible exact Quiet0.refl _ | with_reducible refine Quiet0.trans ?_ (Quiet0.alloc _ _) | with_reducible refine Quiet0.trans ?_ (Quiet0.drew _) | fail)))); rintro e wx ⟨rfl, hqx⟩; (refine with_q (w0 := W0) ?hq2 hqx ?_); (case hq2 => (repeat (first | with_reducible exact hqc | with_reducible exact Quiet0.refl _ | with_reducible refine Quiet0.trans ?_ (Quiet0.alloc _ _) | with_reducible refine Quiet0.trans ?_ (Quiet0.drew _) | fail))); intro hqc)
      | fail)
  all_goals
    go_wp2_with fail
    go_ret
    exact ⟨rfl, HQ0.out.trans hqc⟩
set_option maxHeartbeats 4000000 in
set_option maxRecDepth 100000 in
theorem solves_any (l : List Bd) (es : List Eqn) (w : World) (o : Option Addr) (cap : Nat) (oe : Option Addr) (cape : Nat) (hs : BindsAt w o l) (he : EqsAt w oe es) (hw : ∀ t ∈ l, wfI t.1) (hz : l.length ≤ 100000) (hze : es.length ≤ 100000) (hl : ∀ t ∈ l, t.2.2.2.size ≤ 1000000)
    (hes : ∀ t ∈ es, (t.1.2.2.size ≤ 1000000 ∧ wfI t.1.2.1 ∧ wfF t.1.2.2) ∧ t.2.1.2.2.size ≤ 1000000 ∧ wfI t.2.1.2.1 ∧ wfF t.2.1.2.2) :
    Calls Tryd.prog 41 #[.slice o l.length cap, .slice oe es.length cape] w fun e w' => e = .returned (.bool (es.all (eqP l))) ∧ Quiet0 w w' := by
  have HT := Lib.hid (table_any l w o cap hs hw hz)
  have HE := Lib.hid he
  have HL := Lib.hid hl
  have HES := Lib.hid hes
  have HR : Hid (es.all (eqP l) = !(es.any (fun t => !eqP l t))) := by show _ = _; rw [List.not_any_eq_all_not]; simp
  rw [HR.out]
  obtain ⟨r, hr⟩ : ∃ r, r = es.any (fun t => !eqP l t) := ⟨_, rfl⟩
  have HRR := Lib.hid hr
  rw [← hr]
  clear hs he hw hl hes hr HR
  go_enter Tryd.func41, Tryd.ntmps41
  go_wp2_with fail
  refine HT.out.mono ?_; rintro e w1 ⟨b, m, q, rfl, hb, hm, ht, hq⟩
  have HCF := Lib.hid (containsEq_any 87 #[.pointer (some ⟨w1.heap.size, 0, none⟩)] (fun t => !eqP l t) eg_solves es oe cape (w1.alloc (.cells #[.map (some b)] 94)) (HE.out.stay (hq.trans (Quiet0.alloc _ _)))
    (solves1_any l HL.out (w1.alloc (.cells #[.map (some b)] 94)) w1.heap.size b m q (Box1.new w1 _ _) (hm.stay (Quiet0.alloc _ _)) (ht.stay (Quiet0.alloc _ _)) es HES.out) (by omega))
  rw [← HRR.out] at HCF
  have HQ1 := Lib.hid hq
  clear hb hm ht hq
  go_wp2_with fail
  refine HCF.out.mono ?_; rintro e w2 ⟨rfl, hq2⟩
  go_wp2_with fail
  go_ret
  exact ⟨rfl, (HQ1.out.trans (Quiet0.alloc _ _)).trans hq2⟩
end Go.Proofs.YtggidhgifaekbaaDoor
