/-
  Texts laid together (TeCopy, TeApply, LexByte, LexKw): what each one proves, and its conditions, stands at its head.
-/
import Derived.Deep.RegionHeld3
import Derived.Deep.RegionWith
import Derived.Lib.SmallJoins
import Derived.Test.YtggidhgifaekbaaDoorProg
import Derived.Test.YtggidhgifaekbaaDoorShelfLex
import Derived.Test.YtggidhgifaekbaaDoorTR1
import Derived.Test.YtggidhgifaekbaaDoorTR2
import Derived.Test.YtggidhgifaekbaaDoorTR3
import Derived.Test.YtggidhgifaekbaaDoorTR4
section
/-
  term.Copy. Conditions: the term lies in memory as told; there are few parts of it.
-/
namespace Go.Proofs.YtggidhgifaekbaaDoor
open Go.RowKit Go.Shelf

/-- a world whose block B gets nine cells anew -/
def put9 (w : World) (B : Nat) (a0 a1 a2 a3 a4 a5 a6 a7 a8 : Value) : World :=
  ((((((((w.setCell ⟨B, 0, none⟩ a0).setCell ⟨B, 1, none⟩ a1).setCell ⟨B, 2, none⟩ a2).setCell ⟨B, 3, none⟩ a3).setCell ⟨B, 4, none⟩ a4).setCell ⟨B, 5, none⟩ a5).setCell ⟨B, 6, none⟩ a6).setCell ⟨B, 7, none⟩ a7).setCell ⟨B, 8, none⟩ a8
theorem put9_fr (w : World) (B : Nat) (a0 a1 a2 a3 a4 a5 a6 a7 a8 : Value) : Fr (fun k => k = B) w (put9 w B a0 a1 a2 a3 a4 a5 a6 a7 a8) :=
  ((((((((Fr.setCell (fun k => k = B) w ⟨B, 0, none⟩ a0 rfl).trans (Fr.setCell (fun k => k = B) _ ⟨B, 1, none⟩ a1 rfl)).trans (Fr.setCell (fun k => k = B) _ ⟨B, 2, none⟩ a2 rfl)).trans (Fr.setCell (fun k => k = B) _ ⟨B, 3, none⟩ a3 rfl)).trans (Fr.setCell (fun k => k = B) _ ⟨B, 4, none⟩ a4 rfl)).trans (Fr.setCell (fun k => k = B) _ ⟨B, 5, none⟩ a5 rfl)).trans (Fr.setCell (fun k => k = B) _ ⟨B, 6, none⟩ a6 rfl)).trans (Fr.setCell (fun k => k = B) _ ⟨B, 7, none⟩ a7 rfl)).trans (Fr.setCell (fun k => k = B) _ ⟨B, 8, none⟩ a8 rfl)
theorem put9_block {w : World} {B : Nat} {a0 a1 a2 a3 a4 a5 a6 a7 a8 b0 b1 b2 b3 b4 b5 b6 b7 b8 : Value} {t : TypeId} (h : w.heap[B]? = some (.cells #[b0, b1, b2, b3, b4, b5, b6, b7, b8] t (0, 0))) :
    (put9 w B a0 a1 a2 a3 a4 a5 a6 a7 a8).heap[B]? = some (.cells #[a0, a1, a2, a3, a4, a5, a6, a7, a8] t (0, 0)) := by
  have s0 : ((w).setCell ⟨B, 0, none⟩ a0).heap[B]? = some (.cells #[a0, b1, b2, b3, b4, b5, b6, b7, b8] t (0, 0)) := set_block h
  have s1 : ((((w).setCell ⟨B, 0, none⟩ a0)).setCell ⟨B, 1, none⟩ a1).heap[B]? = some (.cells #[a0, a1, b2, b3, b4, b5, b6, b7, b8] t (0, 0)) := set_block s0
  have s2 : ((((((w).setCell ⟨B, 0, none⟩ a0)).setCell ⟨B, 1, none⟩ a1)).setCell ⟨B, 2, none⟩ a2).heap[B]? = some (.cells #[a0, a1, a2, b3, b4, b5, b6, b7, b8] t (0, 0)) := set_block s1
  have s3 : ((((((((w).setCell ⟨B, 0, none⟩ a0)).setCell ⟨B, 1, none⟩ a1)).setCell ⟨B, 2, none⟩ a2)).setCell ⟨B, 3, none⟩ a3).heap[B]? = some (.cells #[a0, a1, a2, a3, b4, b5, b6, b7, b8] t (0, 0)) := set_block s2
  have s4 : ((((((((((w).setCell ⟨B, 0, none⟩ a0)).setCell ⟨B, 1, none⟩ a1)).setCell ⟨B, 2, none⟩ a2)).setCell ⟨B, 3, none⟩ a3)).setCell ⟨B, 4, none⟩ a4).heap[B]? = some (.cells #[a0, a1, a2, a3, a4, b5, b6, b7, b8] t (0, 0)) := set_block s3
  have s5 : ((((((((((((w).setCell ⟨B, 0, none⟩ a0)).setCell ⟨B, 1, none⟩ a1)).setCell ⟨B, 2, none⟩ a2)).setCell ⟨B, 3, none⟩ a3)).setCell ⟨B, 4, none⟩ a4)).setCell ⟨B, 5, none⟩ a5).heap[B]? = some (.cells #[a0, a1, a2, a3, a4, a5, b6, b7, b8] t (0, 0)) := set_block s4
  have s6 : ((((((((((((((w).setCell ⟨B, 0, none⟩ a0)).setCell ⟨B, 1, none⟩ a1)).setCell ⟨B, 2, none⟩ a2)).setCell ⟨B, 3, none⟩ a3)).setCell ⟨B, 4, none⟩ a4)).setCell ⟨B, 5, none⟩ a5)).setCell ⟨B, 6, none⟩ a6).heap[B]? = some (.cells #[a0, a1, a2, a3, a4, a5, a6, b7, b8] t (0, 0)) := set_block s5
  have s7 : ((((((((((((((((w).setCell ⟨B, 0, none⟩ a0)).setCell ⟨B, 1, none⟩ a1)).setCell ⟨B, 2, none⟩ a2)).setCell ⟨B, 3, none⟩ a3)).setCell ⟨B, 4, none⟩ a4)).setCell ⟨B, 5, none⟩ a5)).setCell ⟨B, 6, none⟩ a6)).setCell ⟨B, 7, none⟩ a7).heap[B]? = some (.cells #[a0, a1, a2, a3, a4, a5, a6, a7, b8] t (0, 0)) := set_block s6
  have s8 : ((((((((((((((((((w).setCell ⟨B, 0, none⟩ a0)).setCell ⟨B, 1, none⟩ a1)).setCell ⟨B, 2, none⟩ a2)).setCell ⟨B, 3, none⟩ a3)).setCell ⟨B, 4, none⟩ a4)).setCell ⟨B, 5, none⟩ a5)).setCell ⟨B, 6, none⟩ a6)).setCell ⟨B, 7, none⟩ a7)).setCell ⟨B, 8, none⟩ a8).heap[B]? = some (.cells #[a0, a1, a2, a3, a4, a5, a6, a7, a8] t (0, 0)) := set_block s7
  exact s8
/-- a world whose block B gets a type's three cells anew -/
def putT (w : World) (B : Nat) (a3 a4 a5 : Value) : World := ((w.setCell ⟨B, 3, none⟩ a3).setCell ⟨B, 4, none⟩ a4).setCell ⟨B, 5, none⟩ a5
theorem putT_fr (w : World) (B : Nat) (a3 a4 a5 : Value) : Fr (fun k => k = B) w (putT w B a3 a4 a5) :=
  ((Fr.setCell (fun k => k = B) _ ⟨B, 3, none⟩ a3 rfl).trans (Fr.setCell (fun k => k = B) _ ⟨B, 4, none⟩ a4 rfl)).trans (Fr.setCell (fun k => k = B) _ ⟨B, 5, none⟩ a5 rfl)
theorem putT_block {w : World} {B : Nat} {a3 a4 a5 b0 b1 b2 b3 b4 b5 b6 b7 b8 : Value} {t : TypeId} (h : w.heap[B]? = some (.cells #[b0, b1, b2, b3, b4, b5, b6, b7, b8] t (0, 0))) :
    (putT w B a3 a4 a5).heap[B]? = some (.cells #[b0, b1, b2, a3, a4, a5, b6, b7, b8] t (0, 0)) :=
  set_block (i := 5) (u := a5) (set_block (i := 4) (u := a4) (set_block (i := 3) (u := a3) h))
theorem block9 {w : World} {B : Nat} {a0 a1 a2 a3 a4 a5 a6 a7 a8 : Value} {t : TypeId} (h : w.heap[B]? = some (.cells #[a0, a1, a2, a3, a4, a5, a6, a7, a8] t (0, 0))) :
    (w.cell? ⟨B, 0, none⟩ = some a0 ∧ w.cell? ⟨B, 1, none⟩ = some a1 ∧ w.cell? ⟨B, 2, none⟩ = some a2 ∧ w.cell? ⟨B, 3, none⟩ = some a3 ∧ w.cell? ⟨B, 4, none⟩ = some a4 ∧ w.cell? ⟨B, 5, none⟩ = some a5 ∧ w.cell? ⟨B, 6, none⟩ = some a6 ∧ w.cell? ⟨B, 7, none⟩ = some a7 ∧ w.cell? ⟨B, 8, none⟩ = some a8) ∧
    w.frozen? ⟨B, 0, none⟩ = false ∧ w.frozen? ⟨B, 1, none⟩ = false ∧ w.frozen? ⟨B, 2, none⟩ = false ∧ w.frozen? ⟨B, 3, none⟩ = false ∧ w.frozen? ⟨B, 4, none⟩ = false ∧ w.frozen? ⟨B, 5, none⟩ = false ∧ w.frozen? ⟨B, 6, none⟩ = false ∧ w.frozen? ⟨B, 7, none⟩ = false ∧ w.frozen? ⟨B, 8, none⟩ = false := by
  refine ⟨⟨?_, ?_, ?_, ?_, ?_, ?_, ?_, ?_, ?_⟩, ?_, ?_, ?_, ?_, ?_, ?_, ?_, ?_, ?_⟩
  all_goals first | (rw [cell_of_row _ _ _ _ _ (0, 0) h]; rfl) | simp [World.frozen?, h]
abbrev zero9 : Array Value := #[.int .i64 0, .string ⟨#[]⟩, .int .i64 0, .int .i64 0, .int .i64 0, .slice none 0 0, .slice none 0 0, .int .i64 0, .int .i64 0]
def TCopy (h : Nd) (ps : To) : Prop := ∀ (w : World) (R : Nat → Prop) (o1 : Option Addr) (l1 c1 : Nat) (o2 : Option Addr) (l2 c2 : Nat), SlcIn R w o1 l1 h.tp → TSlc R w o2 l2 ps → h.tp.size ≤ 1000000 → allT (fun h => h.tp.size ≤ 1000000) ps → ps.size ≤ 1000000 →
  Calls Tryd.prog 34 #[tmv h o1 l1 c1 o2 l2 c2] w fun e w' => ∃ p1 d1 p2 d2, e = .returned (tmv h p1 l1 d1 p2 l2 d2) ∧ SlcIn (fun b => w.heap.size ≤ b) w' p1 l1 h.tp ∧ TSlc (fun b => w.heap.size ≤ b) w' p2 l2 ps ∧ Quiet0 w w'
set_option maxRecDepth 100000 in
set_option maxHeartbeats 4000000 in
theorem copyT_any (h : Nd) (ps : To) : TCopy h ps := by
  refine To.ind' (T := TCopy) ?_ h ps
  intro h ps ih w R o1 l1 c1 o2 l2 c2 hs1 hs htz hats hsz
  have HS := Lib.hid hs
  have IH := Lib.hid ih
  have HL := Lib.hid hs.1
  have HA := Lib.hid hats
  have hmx := hs.2.1
  have hll := To.length_le ps
  rw [← hs.1] at hll
  unfold maxLen at hmx
  obtain ⟨W0, hW0⟩ : ∃ W0, W0 = (w.alloc (.cells (cells9 h o1 l1 c1 o2 l2 c2) 35)).alloc (.cells zero9 35) := ⟨_, rfl⟩
  have HQ0 : Hid (Quiet0 w W0) := by rw [hW0]; exact (Quiet0.alloc _ _).trans (Quiet0.alloc _ _)
  have HCT := Lib.hid (copy_any h.tk h.tn h.tp W0 o1 l1 c1 (hs1.slc.stay HQ0.out) htz)
  have hz0 : w.heap.size + 2 ≤ W0.heap.size := by rw [hW0]; simp
  have HB0 : Hid (W0.heap[w.heap.size]? = some (.cells (cells9 h o1 l1 c1 o2 l2 c2) 35 (0, 0))) := by
    show _ = _; rw [hW0, Below.heap_alloc _ _ _ (by simp)]; exact heap_alloc_new w _
  have HB1 : Hid (W0.heap[w.heap.size + 1]? = some (.cells zero9 35 (0, 0))) := by
    show _ = _; rw [hW0]
    have := heap_alloc_new (w.alloc (.cells (cells9 h o1 l1 c1 o2 l2 c2) 35)) (.cells zero9 35)
    simpa using this
  clear hs ih hats hs1
  unfold tyv at HCT
  unfold tmv
  go_enter Tryd.func34, Tryd.ntmps34
  go_wp2_with fail
  change Calls _ _ _ ((w.alloc (.cells (cells9 h o1 l1 c1 o2 l2 c2) 35)).alloc (.cells zero9 35)) _
  rw [← hW0]
  refine HCT.out.mono ?_; rintro e w1 ⟨q1, e1, rfl, hsl1, hq1⟩
  have HSL1 := Lib.hid hsl1
  have hb0 := (hq1.block _ (by omega) (fun h => h)).trans HB0.out
  have hb1 := (hq1.block _ (by omega) (fun h => h)).trans HB1.out
  have HQ1 := Lib.hid hq1
  have hz1 : W0.heap.size ≤ w1.heap.size := hq1.size
  clear hW0 hq1 hsl1 HB0 HB1 HCT
  have HB0 := Lib.hid hb0
  have HB1 := Lib.hid hb1
  obtain ⟨⟨x0, x1, x2, x3, x4, x5, x6, x7, x8⟩, y0, y1, y2, y3, y4, y5, y6, y7, y8⟩ := block9 hb0
  clear hb0 hb1
  generalize hB : w.heap.size = B at *
  have HBE := Lib.hid hB
  clear hB
  go_wp2_with fail
  obtain ⟨W1, hW1⟩ : ∃ W1, W1 = putT w1 B (.int .i64 h.tk) (.int .i64 h.tn) (.slice q1 l1 e1) := ⟨_, rfl⟩
  change Code.wp _ _ _ _ (putT w1 B (.int .i64 h.tk) (.int .i64 h.tn) (.slice q1 l1 e1))
  have hz2 : W1.heap.size = w1.heap.size := by rw [hW1]; simp [putT, World.setCell]
  have HQW : Hid (Quiet0 w W1) := by
    rw [hW1]
    exact (HQ0.out.trans HQ1.out).trans' (putT_fr _ _ _ _ _) (fun i hi h => by have := HBE.out; omega)
  have HSLW : Hid (SlcIn (fun b => W0.heap.size ≤ b) W1 q1 l1 h.tp) := by
    rw [hW1]
    exact HSL1.out.fr (putT_fr _ _ _ _ _) (fun k _ hk => ⟨hk, fun h => by have hk' : W0.heap.size ≤ k := hk; omega⟩)
  replace HB0 : Hid (W1.heap[B]? = some (.cells (cells9 h q1 l1 e1 o2 l2 c2) 35 (0, 0))) := by
    rw [hW1]; exact putT_block HB0.out
  replace HB1 : Hid (W1.heap[B + 1]? = some (.cells zero9 35 (0, 0))) := by
    rw [hW1]
    exact ((putT_fr w1 B _ _ _).block _ (by omega) (fun h => by omega)).trans HB1.out
  rw [← hW1]
  clear hW1 x0 x1 x2 x3 x4 x5 x6 x7 x8 y0 y1 y2 y3 y4 y5 y6 y7 y8 HSL1 HQ1 HQ0
  go_loopw [3, 13] (fun v t wr => ∃ (i : Nat) (f : To) (xs : List Value) (vo : Option Addr) (vc : Nat), t = .int .i64 i ∧ i ≤ l2 ∧ v = .slice vo i vc ∧ f.length = i ∧ f.app (ps.drop i) = ps ∧ TmRow wr W1.heap.size (.slice vo i vc) f xs ∧ Quiet0 W1 wr) (fun _ t _ => l2 - (intOf t).toNat)
  case atStart => exact ⟨0, .nil, [], none, 0, rfl, Nat.zero_le _, rfl, rfl, by rw [To.drop_zero]; rfl, TmRow.nil _ _, Quiet0.refl _⟩
  case round =>
    obtain ⟨i, f, xs, vo, vc, rfl, hi, rfl, hfl, hap, hrow, hq⟩ := hrel
    have HF := Lib.hid hfl
    have HAP := Lib.hid hap
    have HR := Lib.hid hrow
    have HQ := Lib.hid hq
    clear hfl hap hrow hq
    by_cases hlt : i < l2
    · have hlt' : (i : Int) < l2 := by omega
      obtain ⟨b, off, hd, qs, u1, v1, t1, u2, v2, t2, rfl, hdr, hg, hRb, ⟨f0, f1, f2, f3, f4, f5, f6, f7, f8⟩, hsl, hts⟩ := (HS.out.stay (HQW.out.trans HQ.out)).nth hlt
      have hsq := To.size_get ps i hd qs hg
      have hna := allT_get ps i hd qs HA.out hg
      obtain ⟨w2, hw2⟩ : ∃ w2, w2 = wr.alloc (.cells (cells9 hd u1 v1 t1 u2 v2 t2) 35) := ⟨_, rfl⟩
      have hqw2 : Quiet0 wr w2 := by rw [hw2]; exact Quiet0.alloc _ _
      have HC := Lib.hid (IH.out i hd qs hg w2 R u1 v1 t1 u2 v2 t2 (hsl.stay hqw2) (hts.stay hqw2) hna.1 hna.2 (by omega))
      have HQA := Lib.hid hqw2
      have HD : Hid ((f.app (.cons hd qs .nil)).app (ps.drop (i + 1)) = ps) := by
        show _ = _
        conv => rhs; rw [← HAP.out, hdr]
        rw [To.app_assoc]; rfl
      unfold tmv at HC
      clear hdr hg hsl hts hsq hRb hna hqw2
      go_wp2_with fail
      change Calls _ _ _ (wr.alloc (.cells (cells9 hd u1 v1 t1 u2 v2 t2) 35)) _
      rw [← hw2]
      refine HC.out.mono ?_; rintro e w3 ⟨n1, m1, n2, m2, rfl, hk1, hk2, hq3⟩
      have HK1 := Lib.hid hk1
      have HK2 := Lib.hid hk2
      have HQ3 := Lib.hid (HQA.out.trans hq3)
      have HQ4 := Lib.hid hq3
      have HR1 := Lib.hid (HR.out.stay HQ3.out)
      clear hk1 hk2 hq3 hw2
      go_wp2_with (at_builtin; go_must (refine wpList_append_one w3 rfl (.tmp 17) (.tmp 20) 31 rfl 35 _ 9 112 elemTm (.slice vo i vc) i xs rfl (HF.out ▸ HR1.out.own) (cells9 hd n1 v1 m1 n2 v2 m2) rfl rfl ?c1 ?c2 ?c3 ?_))
      case c1 => simp [Value.oneCell']
      case c2 => unfold maxLen; omega
      case c3 => omega
      intro g2 c' w4 ho hf hg2
      have hlow : W1.heap.size ≤ w3.heap.size := Nat.le_trans HQ.out.size HQ3.out.size
      have hown : ∀ kk, (Value.slice vo i vc).ownBlock = some kk → kk < wr.heap.size := fun kk h => (HR.out.own.lt kk h).2
      have hw2s : wr.heap.size ≤ w2.heap.size := HQA.out.size
      have hk : ∀ kk, kk < w3.heap.size → w2.heap.size ≤ kk → ((W1.heap.size ≤ kk ∧ (Value.slice vo i vc).ownBlock ≠ some kk) ∧ ¬ False) := by
        intro kk _ hkk
        refine ⟨⟨by have := HQ.out.size; omega, fun h => ?_⟩, fun h => h⟩
        have := hown kk h; omega
      have HR2 : Hid (TmRow w4 W1.heap.size (.slice (some ⟨g2, 0, none⟩) (i + 1) c') (f.app (.cons hd qs .nil)) (xs ++ (cells9 hd n1 v1 m1 n2 v2 m2).toList)) := by
        show TmRow _ _ _ _ _
        have hf' := HF.out
        subst hf'
        exact TmRow.snoc HR1.out (HK1.out.fr (Fr.refl (fun _ => False) _) hk) (HK2.out.fr (Fr.refl (fun _ => False) _) hk) ho hf hg2 hlow
      have HQ2 : Hid (Quiet0 W1 w4) := by
        show Quiet0 _ _
        exact Fr.trans' (HQ.out.trans HQ3.out) hf (fun kk hkk h => absurd (HR.out.low kk h) (by omega))
      have HL2 : Hid ((f.app (.cons hd qs .nil)).length = i + 1) := by
        show _ = _
        rw [To.app_length, HF.out]; rfl
      clear ho hf hg2 hown hk
      go_wp2_with fail
      go_roundw
      case rel => exact ⟨i + 1, _, _, some ⟨g2, 0, none⟩, c', by go_num, by omega, rfl, HL2.out, HD.out, HR2.out, HQ2.out⟩
      case measure => simp [intOf]; omega
    · have hlt' : ¬ (i : Int) < l2 := by omega
      have hb1 := (HQ.out.block _ (by omega) (fun h => h)).trans HB1.out
      have hb0 := (HQ.out.block _ (by omega) (fun h => h)).trans HB0.out
      have hb0' := set_block (i := 6) (u := .slice vo i vc) hb0
      have hil : i = l2 := by omega
      subst hil
      obtain ⟨⟨x0, x1, x2, x3, x4, x5, x6, x7, x8⟩, y0, y1, y2, y3, y4, y5, y6, y7, y8⟩ := block9 hb0
      obtain ⟨⟨z0, z1, z2, z3, z4, z5, z6, z7, z8⟩, t0, t1, t2, t3, t4, t5, t6, t7, t8⟩ := block9 hb1
      have HB0 := Lib.hid hb0
      have HB1 := Lib.hid hb1
      clear hb0 hb1
      go_wp2_with fail
      have hb1' : (wr.setCell ⟨B, 6, none⟩ (.slice vo i vc)).heap[B + 1]? = some (.cells zero9 35 (0, 0)) := by
        rw [Below.heap_setCell _ _ _ _ (by show B + 1 ≠ B; omega)]; exact HB1.out
      have hff : Fr (fun k => k = B ∨ k = B + 1) wr (put9 (wr.setCell ⟨B, 6, none⟩ (.slice vo i vc)) (B + 1) (.int .i64 h.k) (.string h.nm) (.int .i64 h.n) (.int .i64 h.tk) (.int .i64 h.tn) (.slice q1 l1 e1) (.slice vo i vc) (.int .i64 h.fr) (.int .i64 h.en)) :=
        (Fr.setCell _ _ _ _ (.inl rfl)).trans ((put9_fr _ _ _ _ _ _ _ _ _ _ _).mono (fun k _ hk => .inr hk))
      have hbf := put9_block (a0 := .int .i64 h.k) (a1 := .string h.nm) (a2 := .int .i64 h.n) (a3 := .int .i64 h.tk) (a4 := .int .i64 h.tn) (a5 := .slice q1 l1 e1) (a6 := .slice vo i vc) (a7 := .int .i64 h.fr) (a8 := .int .i64 h.en) hb1'
      change bodyPost _ _ _ _ _ (put9 (wr.setCell ⟨B, 6, none⟩ (.slice vo i vc)) (B + 1) (.int .i64 h.k) (.string h.nm) (.int .i64 h.n) (.int .i64 h.tk) (.int .i64 h.tn) (.slice q1 l1 e1) (.slice vo i vc) (.int .i64 h.fr) (.int .i64 h.en))
      clear x0 x1 x2 x3 x4 x5 x6 x7 x8 y0 y1 y2 y3 y4 y5 y6 y7 y8 z0 z1 z2 z3 z4 z5 z6 z7 z8 t0 t1 t2 t3 t4 t5 t6 t7 t8 hb0' hb1'
      generalize (put9 (wr.setCell ⟨B, 6, none⟩ (.slice vo i vc)) (B + 1) (.int .i64 h.k) (.string h.nm) (.int .i64 h.n) (.int .i64 h.tk) (.int .i64 h.tn) (.slice q1 l1 e1) (.slice vo i vc) (.int .i64 h.fr) (.int .i64 h.en)) = wf at *
      obtain ⟨⟨x0, x1, x2, x3, x4, x5, x6, x7, x8⟩, _⟩ := block9 hbf
      have HFIN : Hid (SlcIn (fun b => w.heap.size ≤ b) wf q1 l1 h.tp ∧ TSlc (fun b => w.heap.size ≤ b) wf vo i ps ∧ Quiet0 w wf) := by
        have hz := HBE.out
        have hap := HAP.out
        rw [To.drop_end ps i (by have := HL.out; omega), To.app_nil] at hap
        have hqs := HQ.out.size
        refine ⟨(HSLW.out.stay HQ.out).fr hff (fun k _ hk => ?_), ?_, ?_⟩
        · have hk' : W0.heap.size ≤ k := hk
          exact ⟨by omega, by omega⟩
        · rw [← hap]
          refine (HR.out.slc HF.out.symm (by unfold maxLen; omega)).fr hff (fun k _ hk => ?_)
          have hk' : W1.heap.size ≤ k := hk
          exact ⟨by omega, by omega⟩
        · exact (HQW.out.trans HQ.out).trans' hff (fun i hi h => by omega)
      refine bodyPost_ret (by simp [results, Tryd.results34, go_sem, x0, x1, x2, x3, x4, x5, x6, x7, x8]; rfl) rfl ?_
      exact ⟨q1, e1, vo, ⟨vc, rfl⟩, HFIN.out⟩
end Go.Proofs.YtggidhgifaekbaaDoor
end
section
/-
  term.Apply. Conditions: the terms lie in memory as told; there are few parts of them.
-/
namespace Go.Proofs.YtggidhgifaekbaaDoor
open Go.RowKit Go.Shelf

abbrev appNd : Nd := ⟨5, ⟨#[]⟩, 0, 0, 0, .nil, 0, 0⟩
abbrev zeroNd : Nd := ⟨0, ⟨#[]⟩, 0, 0, 0, .nil, 0, 0⟩
/-- a term, applied to others one by one -/
def foldA : Nd → To → To → Nd × To
  | h, ps, .nil => (h, ps)
  | h, ps, .cons h2 ps2 r => foldA appNd (.cons h ps (.cons h2 ps2 .nil)) r
def appAll : To → Nd × To
  | .nil => (zeroNd, .nil)
  | .cons h ps r => foldA h ps r
abbrev cells18 (g : Nd) (a1 : Option Addr) (n1 k1 : Nat) (a2 : Option Addr) (n2 k2 : Nat) (hd : Nd) (u1 : Option Addr) (v1 t1 : Nat) (u2 : Option Addr) (v2 t2 : Nat) : Array Value :=
  #[.int .i64 g.k, .string g.nm, .int .i64 g.n, .int .i64 g.tk, .int .i64 g.tn, .slice a1 n1 k1, .slice a2 n2 k2, .int .i64 g.fr, .int .i64 g.en, .int .i64 hd.k, .string hd.nm, .int .i64 hd.n, .int .i64 hd.tk, .int .i64 hd.tn, .slice u1 v1 t1, .slice u2 v2 t2, .int .i64 hd.fr, .int .i64 hd.en]
set_option maxHeartbeats 2000000 in
theorem slc9two {R : Nat → Prop} {W : World} {b : Nat} {g hd : Nd} {a1 : Option Addr} {n1 k1 : Nat} {a2 : Option Addr} {n2 k2 : Nat} {u1 : Option Addr} {v1 t1 : Nat} {u2 : Option Addr} {v2 t2 : Nat} {gs qs : To}
    (hb : W.heap[b]? = some (.cells (cells18 g a1 n1 k1 a2 n2 k2 hd u1 v1 t1 u2 v2 t2) 35 (0, 0))) (hR : R b)
    (h1 : SlcIn R W a1 n1 g.tp) (h2 : TSlc R W a2 n2 gs) (h3 : SlcIn R W u1 v1 hd.tp) (h4 : TSlc R W u2 v2 qs) : TSlc R W (some ⟨b, 0, none⟩) 2 (.cons g gs (.cons hd qs .nil)) := by
  refine ⟨rfl, by decide, fun _ => ⟨b, 0, rfl, hR, ⟨a1, n1, k1, a2, n2, k2, ⟨?_, ?_, ?_, ?_, ?_, ?_, ?_, ?_, ?_⟩, h1, h2.1, h2.2.1, h2.2.2⟩,
    hR, ⟨u1, v1, t1, u2, v2, t2, ⟨?_, ?_, ?_, ?_, ?_, ?_, ?_, ?_, ?_⟩, h3, h4.1, h4.2.1, h4.2.2⟩, trivial⟩⟩
  all_goals (rw [cell_of_row _ _ _ _ _ (0, 0) hb]; rfl)
/-- what Apply gives back -/
def ApPost (w : World) (fin : Nd × To) (e : Ending) (w' : World) : Prop := ∃ p1 m1 d1 p2 m2 d2, e = .returned (tmv fin.1 p1 m1 d1 p2 m2 d2) ∧ SlcIn (fun b => w.heap.size ≤ b) w' p1 m1 fin.1.tp ∧ TSlc (fun b => w.heap.size ≤ b) w' p2 m2 fin.2 ∧ Quiet0 w w'
def ApplyPost (w : World) (f : To) (e : Ending) (w' : World) : Prop := ApPost w (appAll f) e w'
set_option maxHeartbeats 2000000 in
theorem apply_nil (w : World) (o : Option Addr) (cap : Nat) : Calls Tryd.prog 24 #[.slice o 0 cap] w (ApplyPost w .nil) := by
  have HB1 := Lib.hid (heap_alloc_new w (.cells zero9 35))
  obtain ⟨⟨x0, x1, x2, x3, x4, x5, x6, x7, x8⟩, y0, y1, y2, y3, y4, y5, y6, y7, y8⟩ := block9 HB1.out
  go_enter Tryd.func24, Tryd.ntmps24
  go_wp2_with fail
  refine bodyPost_ret (by simp [results, Tryd.results24, go_sem, x0, x1, x2, x3, x4, x5, x6, x7, x8]; rfl) rfl ?_
  exact ⟨none, 0, 0, none, 0, 0, rfl, SlcIn.nil _ _ _, TSlc.nil _ _ _, Quiet0.alloc _ _⟩
theorem foldA_cons (h h2 : Nd) (ps ps2 r : To) : foldA h ps (.cons h2 ps2 r) = foldA appNd (.cons h ps (.cons h2 ps2 .nil)) r := rfl
/-- Apply's loop is at its head: what was put together lies in the box -/
structure ApRel (B1 B3 : Nat) (W2 wr : World) (g : Nd) (gs : To) : Prop where
  box : ∃ p1 m1 d1 p2 m2 d2, wr.heap[B3]? = some (.cells (cells9 g p1 m1 d1 p2 m2 d2) 35 (0, 0)) ∧ SlcIn (fun k => B1 < k ∧ k ≠ B3) wr p1 m1 g.tp ∧ TSlc (fun k => B1 < k ∧ k ≠ B3) wr p2 m2 gs
  fr : Fr (fun k => k = B3) W2 wr
theorem put9_size (w : World) (B : Nat) (a0 a1 a2 a3 a4 a5 a6 a7 a8 : Value) : (put9 w B a0 a1 a2 a3 a4 a5 a6 a7 a8).heap.size = w.heap.size := by
  unfold put9; simp [World.setCell]
theorem ap_next {B1 B3 : Nat} {W2 wr W5 wx : World} {g hd : Nd} {gs qs : To} {p1 : Option Addr} {m1 d1 : Nat} {p2 : Option Addr} {m2 d2 : Nat} {q5 : Option Addr} {v1 e5 : Nat} {q6 : Option Addr} {v2 e6 : Nat}
    (HFR : Fr (fun k => k = B3) W2 wr) (HQ5 : Quiet0 wr W5) (hqc : Quiet0 W5 wx) (hB3 : W5.heap[B3]? = some (.cells (cells9 g p1 m1 d1 p2 m2 d2) 35 (0, 0))) (h1 : B1 < B3)
    (hp1 : SlcIn (fun k => B1 < k ∧ k ≠ B3) W5 p1 m1 g.tp) (hp2 : TSlc (fun k => B1 < k ∧ k ≠ B3) W5 p2 m2 gs) (hk5 : SlcIn (fun b => W5.heap.size ≤ b) wx q5 v1 hd.tp) (hk6 : TSlc (fun b => W5.heap.size ≤ b) wx q6 v2 qs) :
    ApRel B1 B3 W2 ((put9 wx B3 (.int .i64 5) (.string ⟨#[]⟩) (.int .i64 0) (.int .i64 0) (.int .i64 0) (.slice none 0 0) (.slice (some ⟨wx.heap.size, 0, none⟩) 2 2) (.int .i64 0) (.int .i64 0)).alloc (.cells (cells18 g p1 m1 d1 p2 m2 d2 hd q5 v1 e5 q6 v2 e6) 35)) appNd (.cons g gs (.cons hd qs .nil)) := by
  have hb3x := blk_after hqc hB3
  have hput := put9_fr wx B3 (.int .i64 5) (.string ⟨#[]⟩) (.int .i64 0) (.int .i64 0) (.int .i64 0) (.slice none 0 0) (.slice (some ⟨wx.heap.size, 0, none⟩) 2 2) (.int .i64 0) (.int .i64 0)
  have hbl := put9_block (a0 := .int .i64 5) (a1 := .string ⟨#[]⟩) (a2 := .int .i64 0) (a3 := .int .i64 0) (a4 := .int .i64 0) (a5 := .slice none 0 0) (a6 := .slice (some ⟨wx.heap.size, 0, none⟩) 2 2) (a7 := .int .i64 0) (a8 := .int .i64 0) hb3x
  have hsz := put9_size wx B3 (.int .i64 5) (.string ⟨#[]⟩) (.int .i64 0) (.int .i64 0) (.int .i64 0) (.slice none 0 0) (.slice (some ⟨wx.heap.size, 0, none⟩) 2 2) (.int .i64 0) (.int .i64 0)
  generalize (put9 wx B3 (.int .i64 5) (.string ⟨#[]⟩) (.int .i64 0) (.int .i64 0) (.int .i64 0) (.slice none 0 0) (.slice (some ⟨wx.heap.size, 0, none⟩) 2 2) (.int .i64 0) (.int .i64 0)) = wp at *
  have hnew := heap_alloc_new wp (.cells (cells18 g p1 m1 d1 p2 m2 d2 hd q5 v1 e5 q6 v2 e6) 35)
  rw [hsz] at hnew
  have hl3 := lt_of_block hb3x
  have hs5 : B3 < W5.heap.size := lt_of_block hB3
  have ha := Quiet0.alloc wp (.cells (cells18 g p1 m1 d1 p2 m2 d2 hd q5 v1 e5 q6 v2 e6) 35)
  refine ⟨⟨none, 0, 0, some ⟨wx.heap.size, 0, none⟩, 2, 2, ?_, SlcIn.nil _ _ _, ?_⟩, ?_⟩
  · rw [Below.heap_alloc _ _ _ (by rw [hsz]; exact hl3)]; exact hbl
  · refine slc9two hnew ⟨by omega, by omega⟩ ?_ ?_ ?_ ?_
    · exact ((hp1.stay hqc).fr hput (fun k _ h => ⟨h, fun e => h.2 e⟩)).stay ha
    · exact ((hp2.stay hqc).fr hput (fun k _ h => ⟨h, fun e => h.2 e⟩)).stay ha
    · exact (hk5.fr (T := fun k => B1 < k ∧ k ≠ B3) hput (fun k _ h => by have h' : W5.heap.size ≤ k := h; exact ⟨⟨by omega, by omega⟩, fun e => by have e' : k = B3 := e; omega⟩)).stay ha
    · exact (hk6.fr (T := fun k => B1 < k ∧ k ≠ B3) hput (fun k _ h => by have h' : W5.heap.size ≤ k := h; exact ⟨⟨by omega, by omega⟩, fun e => by have e' : k = B3 := e; omega⟩)).stay ha
  · exact (((HFR.trans HQ5.fr).trans hqc.fr).trans hput).trans ha.fr
set_option maxRecDepth 100000 in
set_option maxHeartbeats 8000000 in
theorem apply_more (h : Nd) (ps r : To) (w : World) (R : Nat → Prop) (o : Option Addr) (len cap : Nat) (hs : TSlc R w o len (.cons h ps r)) (hcap : len ≤ cap) (hat : allT (fun h => h.tp.size ≤ 1000000) (.cons h ps r)) (hz : (To.cons h ps r).size ≤ 1000000) :
    Calls Tryd.prog 24 #[.slice o len cap] w (ApplyPost w (.cons h ps r)) := by
  have hl : len = r.length + 1 := hs.1
  have hmx := hs.2.1
  unfold maxLen at hmx
  obtain ⟨b, off, h', ps', o1, l1, c1, o2, l2, c2, rfl, hdr, hg, hRb, hc9, hsl, hts⟩ := hs.nth (i := 0) (by omega)
  simp only [To.get] at hg
  cases hg
  rw [Nat.zero_mul, Nat.add_zero] at hc9
  have hblt := hc9.lt
  have hss : TSlc R w (some ⟨b, off + 9, none⟩) (len - 1) r := by
    refine ⟨by omega, by unfold maxLen; omega, fun _ => ⟨b, off + 9, rfl, ?_⟩⟩
    obtain ⟨b', off', he, ha⟩ := hs.2.2 (by omega)
    cases he
    exact ha.2.2
  obtain ⟨n, hn⟩ : ∃ n, len - 1 = n := ⟨_, rfl⟩
  rw [hn] at hss
  obtain ⟨W0, hW0⟩ : ∃ W0, W0 = w.alloc (.cells zero9 35) := ⟨_, rfl⟩
  have hq0 : Quiet0 w W0 := by rw [hW0]; exact Quiet0.alloc _ _
  have HB1 : Hid (W0.heap[w.heap.size]? = some (.cells zero9 35 (0, 0))) := by rw [hW0]; exact heap_alloc_new w _
  have HZ0 : Hid (W0.heap.size = w.heap.size + 1) := by show _ = _; rw [hW0]; simp
  have hsz1 : ps.size ≤ 1000000 := by simp only [To.size] at hz; omega
  have HC := Lib.hid (copyT_any h ps W0 R o1 l1 c1 o2 l2 c2 (hsl.stay hq0) (hts.stay hq0) hat.1 hat.2.1 hsz1)
  obtain ⟨f0, f1, f2, f3, f4, f5, f6, f7, f8⟩ := hc9.fr hq0 (fun h => h)
  have HSQ := Lib.hid hss
  have HA := Lib.hid hat.2.2
  have hrz : r.size ≤ 1000000 := by simp only [To.size] at hz; omega
  have HQ0 := Lib.hid hq0
  have HRL : Hid (n = r.length) := by show _ = _; omega
  have HLN : Hid (len = n + 1) := by show _ = _; omega
  have hnb : n ≤ 1000000 := by have := To.length_le r; omega
  have j0 : (0 : Int) < (len : Int) := by omega
  have jn : 0 < len := by omega
  have j1 : (1 : Int) ≤ (len : Int) := by omega
  have j2 : (len : Int) ≤ (cap : Int) := by omega
  have j3 : ((len : Int) == 0) = false := by simp; omega
  have j4 : (1 : Int) ≤ (cap : Int) := by omega
  obtain ⟨fin, hfin⟩ : ∃ fin, foldA h ps r = fin := ⟨_, rfl⟩
  have HFIN := Lib.hid hfin
  have HF : Hid (appAll (.cons h ps r) = fin) := hfin
  show Calls _ _ _ _ (ApPost w (appAll (.cons h ps r)))
  rw [HF.out]
  have HBW : Hid (b < w.heap.size) := hblt
  clear hs hdr hsl hts hss hat hz hc9 hblt HF hfin hl hq0 hmx hcap
  unfold tmv at HC
  go_enter Tryd.func24, Tryd.ntmps24
  go_upto_region 1 with fail
  change Code.wp _ _ _ _ (w.alloc (.cells zero9 35))
  rw [← hW0]
  clear hW0
  generalize hB1 : w.heap.size = B1 at *
  have HBE := Lib.hid hB1
  clear hB1
  go_wp2_with fail
  refine HC.out.mono ?_; rintro e w1 ⟨q1, e1, q2, e2, rfl, hk1, hk2, hq1⟩
  have HK1 := Lib.hid hk1
  have HK2 := Lib.hid hk2
  have HQ1 := Lib.hid hq1
  obtain ⟨W2, hW2⟩ : ∃ W2, W2 = w1.alloc (.cells (cells9 h q1 l1 e1 q2 l2 e2) 35) := ⟨_, rfl⟩
  clear hk1 hk2 hq1 HC f0 f1 f2 f3 f4 f5 f6 f7 f8
  go_upto_region 4 with fail
  change Code.wp _ _ _ _ (w1.alloc (.cells (cells9 h q1 l1 e1 q2 l2 e2) 35))
  have HQ2 : Hid (Quiet0 w1 W2) := by rw [hW2]; exact Quiet0.alloc _ _
  have hb3 : W2.heap[w1.heap.size]? = some (.cells (cells9 h q1 l1 e1 q2 l2 e2) 35 (0, 0)) := by rw [hW2]; exact heap_alloc_new w1 _
  have HZ2 : Hid (W2.heap.size = w1.heap.size + 1) := by show _ = _; rw [hW2]; simp
  have HB13 : Hid (B1 < w1.heap.size) := by have := HQ1.out.size; have := HZ0.out; show _ < _; omega
  rw [← hW2]
  clear hW2
  have HB1W : Hid (W2.heap[B1]? = some (.cells zero9 35 (0, 0))) := by
    show _ = _
    rw [HQ2.out.block B1 HB13.out (fun h => h), HQ1.out.block B1 (by have := HZ0.out; omega) (fun h => h)]; exact HB1.out
  have HW01 := Lib.hid HQ1.out.size
  generalize hB3 : w1.heap.size = B3 at *
  have HB3E := Lib.hid hB3
  have HAP : Hid (ApRel B1 B3 W2 W2 h ps) := by
    refine ⟨⟨q1, l1, e1, q2, l2, e2, hb3, ?_, ?_⟩, Fr.refl _ _⟩
    · exact HK1.out.fr HQ2.out (fun k hk h => ⟨⟨by have h' : W0.heap.size ≤ k := h; have := HZ0.out; omega, by omega⟩, fun h => h⟩)
    · exact HK2.out.fr HQ2.out (fun k hk h => ⟨⟨by have h' : W0.heap.size ≤ k := h; have := HZ0.out; omega, by omega⟩, fun h => h⟩)
  have HQW : Hid (∀ W, Fr (fun k => k = B3) W2 W → Quiet0 w W) := by
    intro W hf
    exact Fr.trans' ((HQ0.out.trans HQ1.out).trans HQ2.out) hf (fun k hk e => by have := HBE.out; have := HB13.out; omega)
  have HSW : Hid (∀ W, Fr (fun k => k = B3) W2 W → TSlc (fun k => R k ∧ k < B1) W (some ⟨b, off + 9, none⟩) n r) := by
    intro W hf
    refine TSlc.fr (R := R) HSQ.out (HQW.out W hf) (fun k hk h => ⟨⟨h, by have := HBE.out; omega⟩, fun h => h⟩)
  clear hb3 hB3
  by_cases hc1 : cap = 1
  · have HN0 : Hid (n = 0) := by have := HLN.out; show _ = _; omega
    have hln1 : len - 1 = n := by have := HLN.out; omega
    subst hc1
    go_wp2_with fail
    clear hln1
    go_loopw [17] (fun t wr => ∃ (i : Nat) (g : Nd) (gs : To), t = .int .i64 i ∧ i ≤ n ∧ foldA g gs (r.drop i) = fin ∧ ApRel B1 B3 W2 wr g gs) (fun t _ => n - (intOf t).toNat)
    case atStart => exact ⟨0, h, ps, rfl, Nat.zero_le _, by rw [To.drop_zero]; exact HFIN.out, HAP.out⟩
    case round =>
      obtain ⟨i, g, gs, rfl, hi, hfo, hap⟩ := hrel
      have hi0 : ¬ (i : Int) < n := by have := HN0.out; omega
      have hfin : (g, gs) = fin := by
        rw [To.drop_end r i (by have := HRL.out; omega)] at hfo; exact hfo
      have HFI := Lib.hid hfin
      obtain ⟨⟨p1, m1, d1, p2, m2, d2, hbx, hp1, hp2⟩, hfr⟩ := hap
      have hb1 := (hfr.block B1 (by have := HZ2.out; have := HB13.out; omega) (by have := HB13.out; show ¬ B1 = B3; omega)).trans HB1W.out
      obtain ⟨⟨x0, x1, x2, x3, x4, x5, x6, x7, x8⟩, y0, y1, y2, y3, y4, y5, y6, y7, y8⟩ := block9 hbx
      obtain ⟨⟨z0, z1, z2, z3, z4, z5, z6, z7, z8⟩, t0, t1, t2, t3, t4, t5, t6, t7, t8⟩ := block9 hb1
      have HB1R := Lib.hid hb1
      have HP1 := Lib.hid hp1
      have HP2 := Lib.hid hp2
      have HFR := Lib.hid hfr
      clear hfin hfo hbx hp1 hp2 hfr hb1
      go_wp2_with fail
      change bodyPost _ _ _ _ _ (put9 wr B1 (.int .i64 g.k) (.string g.nm) (.int .i64 g.n) (.int .i64 g.tk) (.int .i64 g.tn) (.slice p1 m1 d1) (.slice p2 m2 d2) (.int .i64 g.fr) (.int .i64 g.en))
      have hff := put9_fr wr B1 (.int .i64 g.k) (.string g.nm) (.int .i64 g.n) (.int .i64 g.tk) (.int .i64 g.tn) (.slice p1 m1 d1) (.slice p2 m2 d2) (.int .i64 g.fr) (.int .i64 g.en)
      have hbf := put9_block (a0 := .int .i64 g.k) (a1 := .string g.nm) (a2 := .int .i64 g.n) (a3 := .int .i64 g.tk) (a4 := .int .i64 g.tn) (a5 := .slice p1 m1 d1) (a6 := .slice p2 m2 d2) (a7 := .int .i64 g.fr) (a8 := .int .i64 g.en) HB1R.out
      clear x0 x1 x2 x3 x4 x5 x6 x7 x8 y0 y1 y2 y3 y4 y5 y6 y7 y8 z0 z1 z2 z3 z4 z5 z6 z7 z8 t0 t1 t2 t3 t4 t5 t6 t7 t8
      generalize (put9 wr B1 (.int .i64 g.k) (.string g.nm) (.int .i64 g.n) (.int .i64 g.tk) (.int .i64 g.tn) (.slice p1 m1 d1) (.slice p2 m2 d2) (.int .i64 g.fr) (.int .i64 g.en)) = wf at *
      obtain ⟨⟨x0, x1, x2, x3, x4, x5, x6, x7, x8⟩, _⟩ := block9 hbf
      refine bodyPost_ret (by simp [results, Tryd.results24, go_sem, x0, x1, x2, x3, x4, x5, x6, x7, x8]; rfl) rfl ?_
      rw [← HFI.out]
      refine ⟨p1, m1, d1, p2, m2, d2, rfl, HP1.out.fr hff (fun k _ hk => ⟨by have := hk.1; have := HBE.out; omega, fun e => by have := hk.1; omega⟩), HP2.out.fr hff (fun k _ hk => ⟨by have := hk.1; have := HBE.out; omega, fun e => by have := hk.1; omega⟩), ?_⟩
      exact Fr.trans' (HQW.out _ HFR.out) hff (fun k hk e => by have := HBE.out; omega)
  · have hc1' : ¬ cap = 1 := hc1
    have hln1 : len - 1 = n := by have := HLN.out; omega
    go_wp2_with fail
    clear hln1
    go_loopw [17] (fun t wr => ∃ (i : Nat) (g : Nd) (gs : To), t = .int .i64 i ∧ i ≤ n ∧ foldA g gs (r.drop i) = fin ∧ ApRel B1 B3 W2 wr g gs) (fun t _ => n - (intOf t).toNat)
    case atStart => exact ⟨0, h, ps, rfl, Nat.zero_le _, by rw [To.drop_zero]; exact HFIN.out, HAP.out⟩
    case round =>
      obtain ⟨i, g, gs, rfl, hi, hfo, hap⟩ := hrel
      by_cases hlt : i < n
      · have hlt' : (i : Int) < n := by omega
        obtain ⟨⟨p1, m1, d1, p2, m2, d2, hbx, hp1, hp2⟩, hfr⟩ := hap
        obtain ⟨b5, off5, hd, qs, u1, v1, t1, u2, v2, t2, he5, hdr5, hg5, hR5, hc5, hsl5, hts5⟩ := (HSW.out wr hfr).nth hlt
        cases he5
        have hat5 := allT_get r i hd qs HA.out hg5
        have hsz5 := To.size_get r i hd qs hg5
        have HFO : Hid (foldA appNd (.cons g gs (.cons hd qs .nil)) (r.drop (i + 1)) = fin) := by
          show _ = _
          rw [← foldA_cons, ← hdr5]; exact hfo
        obtain ⟨W5, hW5⟩ : ∃ W5, W5 = wr.alloc (.cells (cells9 hd u1 v1 t1 u2 v2 t2) 35) := ⟨_, rfl⟩
        have hq5 : Quiet0 wr W5 := by rw [hW5]; exact Quiet0.alloc _ _
        have HB5 : Hid (W5.heap[wr.heap.size]? = some (.cells (cells9 hd u1 v1 t1 u2 v2 t2) 35 (0, 0))) := by rw [hW5]; exact heap_alloc_new wr _
        have HCC := Lib.hid (fun (W : World) (hq : Quiet0 W5 W) => copyT_any hd qs W (fun k => R k ∧ k < B1) u1 v1 t1 u2 v2 t2 (hsl5.stay (hq5.trans hq)) (hts5.stay (hq5.trans hq)) hat5.1 hat5.2 (by omega))
        obtain ⟨f0, f1, f2, f3, f4, f5, f6, f7, f8⟩ := hc5
        have HB3W := Lib.hid (blk_after hq5 hbx)
        have HP1 := Lib.hid (hp1.stay hq5)
        have HP2 := Lib.hid (hp2.stay hq5)
        have HFR := Lib.hid hfr
        have HQ5 := Lib.hid hq5
        have HB3L : Hid (B3 < wr.heap.size) := lt_of_block hbx
        have HW5Z : Hid (W5.heap.size = wr.heap.size + 1) := by show _ = _; rw [hW5]; simp
        unfold tmv at HCC
        clear hfo hbx hp1 hp2 hfr hdr5 hg5 hsl5 hts5 hat5 hsz5 hq5
        go_upto_region 7 with fail
        change Code.wp _ _ _ _ (wr.alloc (.cells (cells9 hd u1 v1 t1 u2 v2 t2) 35))
        rw [← hW5]
        clear hW5 f0 f1 f2 f3 f4 f5 f6 f7 f8
        generalize hB5 : wr.heap.size = B5 at *
        clear hB5
        have HSS : Hid (∀ W, Fr (fun k => k ≠ B5) W5 W → W.cell? ⟨B5, 0, none⟩ = some (.int .i64 hd.k) ∧ W.cell? ⟨B5, 1, none⟩ = some (.string hd.nm) ∧ W.cell? ⟨B5, 2, none⟩ = some (.int .i64 hd.n) ∧ W.cell? ⟨B5, 3, none⟩ = some (.int .i64 hd.tk) ∧ W.cell? ⟨B5, 4, none⟩ = some (.int .i64 hd.tn) ∧ W.cell? ⟨B5, 5, none⟩ = some (.slice u1 v1 t1) ∧ W.cell? ⟨B5, 6, none⟩ = some (.slice u2 v2 t2) ∧ W.cell? ⟨B5, 7, none⟩ = some (.int .i64 hd.fr) ∧ W.cell? ⟨B5, 8, none⟩ = some (.int .i64 hd.en)) :=
          fun W hq => (block9 (blk_fr hq (fun h => h rfl) HB5.out)).1
        have hB35 : ¬ B3 = B5 := by have := HB3L.out; omega
        obtain ⟨⟨a0, a1, a2, a3, a4, a5, a6, a7, a8⟩, y0, y1, y2, y3, y4, y5, y6, y7, y8⟩ := block9 HB3W.out
        obtain ⟨g0, g1, g2, g3, g4, g5, g6, g7, g8⟩ := HSS.out W5 (Fr.refl _ _)
        have hqc := Quiet0.refl W5
        go_region_with
          (first
            | (go_at_call 34; (with_reducible refine Calls.mono (HCC.out _ ?hq) ?_); (case hq => (repeat (first | with_reducible exact hqc | with_reducible exact Quiet0.refl _ | with_reducible refine Quiet0.trans ?_ (Quiet0.alloc _ _) | with_reducible refine Quiet0.trans ?_ (Quiet0.drew _) | fail))); skip; rintro e wx ⟨q5, e5, q6, e6, rfl, hk5, hk6, hqx⟩; ((first | (have hb3x := blk_after hqx HB3W.out) | (have hb3x := blk_after hqx (blk_drew HB3W.out)) | (have hb3x := blk_after hqx (blk_drew (blk_drew HB3W.out)))); obtain ⟨⟨m0, m1', m2', m3, m4, m5, m6, m7, m8⟩, z0, z1, z2, z3, z4, z5, z6, z7, z8⟩ := block9 hb3x; have hlx := lt_of_block hb3x); (refine with_q (w0 := W5) ?hq2 hqx ?_); (case hq2 => (repeat (first | with_reducible exact hqc | with_reducible exact Quiet0.refl _ | with_reducible refine Quiet0.trans ?_ (Quiet0.alloc _ _) | with_reducible refine Quiet0.trans ?_ (Quiet0.drew _) | fail))); intro hqc)
            | fail)
        all_goals
          clear HSS a0 a1 a2 a3 a4 a5 a6 a7 a8 y0 y1 y2 y3 y4 y5 y6 y7 y8 g0 g1 g2 g3 g4 g5 g6 g7 g8 m0 m1' m2' m3 m4 m5 m6 m7 m8 z0 z1 z2 z3 z4 z5 z6 z7 z8 hb3x
          have HAN : Hid (ApRel B1 B3 W2 ((put9 wx B3 (.int .i64 5) (.string ⟨#[]⟩) (.int .i64 0) (.int .i64 0) (.int .i64 0) (.slice none 0 0) (.slice (some ⟨wx.heap.size, 0, none⟩) 2 2) (.int .i64 0) (.int .i64 0)).alloc (.cells (cells18 g p1 m1 d1 p2 m2 d2 hd q5 v1 e5 q6 v2 e6) 35)) appNd (.cons g gs (.cons hd qs .nil))) := Lib.hid (ap_next HFR.out HQ5.out hqc HB3W.out HB13.out HP1.out HP2.out hk5 hk6)
          unfold put9 at HAN
          clear hqc hk5 hk6
          go_wp2_with fail
          go_roundw
          case rel => exact ⟨i + 1, appNd, _, by go_num, by omega, HFO.out, HAN.out⟩
          case measure => simp [intOf]; omega
      · have hlt' : ¬ (i : Int) < n := by omega
        have hfin : (g, gs) = fin := by
          rw [To.drop_end r i (by have := HRL.out; omega)] at hfo; exact hfo
        have HFI := Lib.hid hfin
        obtain ⟨⟨p1, m1, d1, p2, m2, d2, hbx, hp1, hp2⟩, hfr⟩ := hap
        have hb1 := (hfr.block B1 (by have := HZ2.out; have := HB13.out; omega) (by have := HB13.out; show ¬ B1 = B3; omega)).trans HB1W.out
        obtain ⟨⟨x0, x1, x2, x3, x4, x5, x6, x7, x8⟩, y0, y1, y2, y3, y4, y5, y6, y7, y8⟩ := block9 hbx
        obtain ⟨⟨z0, z1, z2, z3, z4, z5, z6, z7, z8⟩, t0, t1, t2, t3, t4, t5, t6, t7, t8⟩ := block9 hb1
        have HB1R := Lib.hid hb1
        have HP1 := Lib.hid hp1
        have HP2 := Lib.hid hp2
        have HFR := Lib.hid hfr
        clear hfin hfo hbx hp1 hp2 hfr hb1
        go_wp2_with fail
        change bodyPost _ _ _ _ _ (put9 wr B1 (.int .i64 g.k) (.string g.nm) (.int .i64 g.n) (.int .i64 g.tk) (.int .i64 g.tn) (.slice p1 m1 d1) (.slice p2 m2 d2) (.int .i64 g.fr) (.int .i64 g.en))
        have hff := put9_fr wr B1 (.int .i64 g.k) (.string g.nm) (.int .i64 g.n) (.int .i64 g.tk) (.int .i64 g.tn) (.slice p1 m1 d1) (.slice p2 m2 d2) (.int .i64 g.fr) (.int .i64 g.en)
        have hbf := put9_block (a0 := .int .i64 g.k) (a1 := .string g.nm) (a2 := .int .i64 g.n) (a3 := .int .i64 g.tk) (a4 := .int .i64 g.tn) (a5 := .slice p1 m1 d1) (a6 := .slice p2 m2 d2) (a7 := .int .i64 g.fr) (a8 := .int .i64 g.en) HB1R.out
        clear x0 x1 x2 x3 x4 x5 x6 x7 x8 y0 y1 y2 y3 y4 y5 y6 y7 y8 z0 z1 z2 z3 z4 z5 z6 z7 z8 t0 t1 t2 t3 t4 t5 t6 t7 t8
        generalize (put9 wr B1 (.int .i64 g.k) (.string g.nm) (.int .i64 g.n) (.int .i64 g.tk) (.int .i64 g.tn) (.slice p1 m1 d1) (.slice p2 m2 d2) (.int .i64 g.fr) (.int .i64 g.en)) = wf at *
        obtain ⟨⟨x0, x1, x2, x3, x4, x5, x6, x7, x8⟩, _⟩ := block9 hbf
        refine bodyPost_ret (by simp [results, Tryd.results24, go_sem, x0, x1, x2, x3, x4, x5, x6, x7, x8]; rfl) rfl ?_
        rw [← HFI.out]
        refine ⟨p1, m1, d1, p2, m2, d2, rfl, HP1.out.fr hff (fun k _ hk => ⟨by have := hk.1; have := HBE.out; omega, fun e => by have := hk.1; omega⟩), HP2.out.fr hff (fun k _ hk => ⟨by have := hk.1; have := HBE.out; omega, fun e => by have := hk.1; omega⟩), ?_⟩
        exact Fr.trans' (HQW.out _ HFR.out) hff (fun k hk e => by have := HBE.out; omega)
end Go.Proofs.YtggidhgifaekbaaDoor
end
section
/-
  What a byte is (small, digit, inner, blank; the reference's Letter, Digit, Inner), and how many bytes in a row are of a kind (run). No condition but that a place lies in its text.
-/
namespace Go.Proofs.YtggidhgifaekbaaDoor.Lx
open Go.RowKit

theorem u8_beq (x : UInt8) (n : Nat) (hn : n < 256) : (x == UInt8.ofNat n) = decide (x.toNat = n) := by
  rw [Bool.eq_iff_iff, beq_iff_eq, decide_eq_true_eq]
  constructor
  · intro h; rw [h]; simp; omega
  · intro h; rw [← h]; simp
theorem u8_lt (x : UInt8) : x.toNat < 256 := x.toNat_lt
theorem small_of (x : UInt8) : smallB x = (decide ((97 : Int) ≤ (x.toNat : Int)) && decide ((x.toNat : Int) ≤ 122)) := by
  unfold smallB; congr 1 <;> (rw [Bool.eq_iff_iff]; simp; omega)
theorem digit_of (x : UInt8) : digitB x = (decide ((48 : Int) ≤ (x.toNat : Int)) && decide ((x.toNat : Int) ≤ 57)) := by
  unfold digitB; congr 1 <;> (rw [Bool.eq_iff_iff]; simp; omega)
theorem blank_of (x : UInt8) : blankB x = (((x.toNat : Int) == 32) || ((x.toNat : Int) == 9) || ((x.toNat : Int) == 10) || ((x.toNat : Int) == 13)) := by
  unfold blankB
  rw [show (32 : UInt8) = UInt8.ofNat 32 from rfl, show (9 : UInt8) = UInt8.ofNat 9 from rfl, show (10 : UInt8) = UInt8.ofNat 10 from rfl, show (13 : UInt8) = UInt8.ofNat 13 from rfl]
  rw [u8_beq _ _ (by omega), u8_beq _ _ (by omega), u8_beq _ _ (by omega), u8_beq _ _ (by omega)]
  rw [Bool.eq_iff_iff]; simp; omega
theorem under_of (x : UInt8) : (x == 95) = ((x.toNat : Int) == 95) := by
  rw [show (95 : UInt8) = UInt8.ofNat 95 from rfl, u8_beq _ _ (by omega), Bool.eq_iff_iff]; simp; omega
theorem nolf_of (x : UInt8) : nolfB x = ((x.toNat : Int) != 10) := by
  unfold nolfB
  rw [show (10 : UInt8) = UInt8.ofNat 10 from rfl, u8_beq _ _ (by omega), Bool.eq_iff_iff]; simp; omega

/-- what a function on bytes tells -/
def Tells (g : Nat) (p : UInt8 → Bool) : Prop := ∀ (x : UInt8) (w : World), Calls Tryd.prog g #[.int .u8 (x.toNat : Int)] w fun e w' => e = .returned (.bool (p x)) ∧ w = w'

theorem small_any : Tells 127 smallB := by
  intro x w
  have hb := u8_lt x
  by_cases h1 : (97 : Int) ≤ (x.toNat : Int)
  · go_enter Tryd.func127, Tryd.ntmps127
    go_wp2
    go_ret
    exact ⟨by rw [small_of]; (first | (simp [h1]; done) | (simp [h1]; omega)), rfl⟩
  · go_enter Tryd.func127, Tryd.ntmps127
    go_wp2
    go_ret
    exact ⟨by rw [small_of]; (first | (simp; done) | (simp; omega)), rfl⟩
theorem letter_any : Tells 132 smallB := by
  intro x w
  have hb := u8_lt x
  by_cases h1 : (97 : Int) ≤ (x.toNat : Int)
  · go_enter Tryd.func132, Tryd.ntmps132
    go_wp2
    go_ret
    exact ⟨by rw [small_of]; (first | (simp [h1]; done) | (simp [h1]; omega)), rfl⟩
  · go_enter Tryd.func132, Tryd.ntmps132
    go_wp2
    go_ret
    exact ⟨by rw [small_of]; (first | (simp; done) | (simp; omega)), rfl⟩
theorem digit_any : Tells 137 digitB := by
  intro x w
  have hb := u8_lt x
  by_cases h1 : (48 : Int) ≤ (x.toNat : Int)
  · go_enter Tryd.func137, Tryd.ntmps137
    go_wp2
    go_ret
    exact ⟨by rw [digit_of]; (first | (simp [h1]; done) | (simp [h1]; omega)), rfl⟩
  · go_enter Tryd.func137, Tryd.ntmps137
    go_wp2
    go_ret
    exact ⟨by rw [digit_of]; (first | (simp; done) | (simp; omega)), rfl⟩
theorem refDigit_any : Tells 140 digitB := by
  intro x w
  have hb := u8_lt x
  by_cases h1 : (48 : Int) ≤ (x.toNat : Int)
  · go_enter Tryd.func140, Tryd.ntmps140
    go_wp2
    go_ret
    exact ⟨by rw [digit_of]; (first | (simp [h1]; done) | (simp [h1]; omega)), rfl⟩
  · go_enter Tryd.func140, Tryd.ntmps140
    go_wp2
    go_ret
    exact ⟨by rw [digit_of]; (first | (simp; done) | (simp; omega)), rfl⟩
theorem inner_any : Tells 129 innerB := by
  intro x w
  have hb := u8_lt x
  cases h1 : smallB x <;> cases h2 : digitB x
  all_goals
    have H1 := Lib.hid h1
    have H2 := Lib.hid h2
    clear h1 h2
    go_enter Tryd.func129, Tryd.ntmps129
    go_wp2_with fail
    refine (small_any x _).mono ?_; rintro e w' ⟨rfl, rfl⟩
    rw [H1.out]
    go_wp2_with fail
    try (refine (digit_any x _).mono ?_; rintro e w' ⟨rfl, rfl⟩; rw [H2.out]; go_wp2_with fail)
    go_ret
    exact ⟨by unfold innerB; rw [H1.out, H2.out, under_of]; simp, rfl⟩
theorem refInner_any : Tells 131 innerB := by
  intro x w
  have hb := u8_lt x
  cases h1 : smallB x <;> cases h2 : digitB x
  all_goals
    have H1 := Lib.hid h1
    have H2 := Lib.hid h2
    clear h1 h2
    go_enter Tryd.func131, Tryd.ntmps131
    go_wp2_with fail
    refine (letter_any x _).mono ?_; rintro e w' ⟨rfl, rfl⟩
    rw [H1.out]
    go_wp2_with fail
    try (refine (refDigit_any x _).mono ?_; rintro e w' ⟨rfl, rfl⟩; rw [H2.out]; go_wp2_with fail)
    go_ret
    exact ⟨by unfold innerB; rw [H1.out, H2.out, under_of]; simp, rfl⟩

theorem drop_byte (s : ByteArray) (k : Nat) (h : k < s.size) : s.data.toList.drop k = s[k] :: s.data.toList.drop (k + 1) := by
  rw [List.drop_eq_getElem_cons (by simpa using h)]; rfl
theorem drop_end (s : ByteArray) (k : Nat) (h : s.size ≤ k) : s.data.toList.drop k = [] := by
  rw [List.drop_eq_nil_iff]; simpa using h
theorem runL_cons (p : UInt8 → Bool) (c : UInt8) (r : List UInt8) : runL p (c :: r) = if p c then runL p r + 1 else 0 := rfl
theorem bytes_length (s : ByteArray) : s.data.toList.length = s.size := by simp

set_option maxHeartbeats 1000000 in
theorem run_any (g : Nat) (p : UInt8 → Bool) (eg : ∀ args w, (callFunc g args).run Tryd.prog w = .ok (.enter g args) w) (hp : Tells g p) (s : ByteArray) (k : Nat) (ki : Int) (ek : ki = k) (hk : k ≤ s.size) (hs : s.size ≤ maxLen) (w : World) :
    Calls Tryd.prog 128 #[.string s, .int .i64 ki, .func (.func g) #[] #[]] w fun e w' => e = .returned (.int .i64 (runL p (s.data.toList.drop k) : Nat)) ∧ w = w' := by
  subst ek
  unfold maxLen at hs
  have HP := Lib.hid hp
  clear hp
  go_enter Tryd.func128, Tryd.ntmps128
  go_wp2
  go_loop [7] (fun t => ∃ n : Nat, t = .int .i64 n ∧ k + n ≤ s.size ∧ runL p (s.data.toList.drop k) = n + runL p (s.data.toList.drop (k + n))) (fun t => s.size - k - (intOf t).toNat)
  case atStart => exact ⟨0, rfl, by omega, by simp⟩
  case round =>
    obtain ⟨n, rfl, hn, he⟩ := hrel
    have HE := Lib.hid he
    clear he
    by_cases hlt : k + n < s.size
    · have hd := Lib.hid (drop_byte s (k + n) hlt)
      have hlt' : (k : Int) + n < s.size := by omega
      cases hx : p s[k + n]
      all_goals
        have HX := Lib.hid hx
        clear hx
        go_wp2_with fail
        have HPX := HP.out s[k + n] w
        rw [HX.out] at HPX
        refine HPX.mono ?_; rintro e w' ⟨rfl, rfl⟩
        clear HPX
        go_wp2
      · go_ret
        refine ⟨?_, rfl⟩
        rw [HE.out, hd.out, runL_cons, HX.out]; rfl
      · go_round
        case rel =>
          refine ⟨n + 1, by go_num, by omega, ?_⟩
          rw [HE.out, hd.out, runL_cons, HX.out]
          simp only [if_true]
          rw [show k + (n + 1) = k + n + 1 from by omega]; omega
        case measure => simp [intOf]; omega
    · have hd := Lib.hid (drop_end s (k + n) (by omega))
      have hlt' : ¬ (k : Int) + n < s.size := by omega
      go_wp2
      go_ret
      refine ⟨?_, rfl⟩
      rw [HE.out, hd.out]; rfl
end Go.Proofs.YtggidhgifaekbaaDoor.Lx
end
section
/-
  Whether a text is one of the words: the program's Keyword and the reference's. Condition: strings.asciiSpace holds what its initialiser lays.
-/
namespace Go.Proofs.YtggidhgifaekbaaDoor.Lx
open Go.RowKit

abbrev Spaces (w : World) : Prop := Lib.TabIs Tryd.prog w "strings.asciiSpace" .u8 Lib.asciiSpaceTab
theorem Spaces.stay {w w' : World} (h : Spaces w) (hq : Quiet0 w w') : Spaces w' := by
  have hg : Tryd.prog.globalNamed "strings.asciiSpace" = some 0 := by kernel_rfl
  exact Joins.tab_stays hg h hq.below (Nat.le_refl _)

def toBA (l : List UInt8) : ByteArray := ⟨l.toArray⟩
theorem toBA_toList (l : List UInt8) : (toBA l).data.toList = l := rfl
theorem toBA_of (s : ByteArray) : toBA s.data.toList = s := by cases s; rfl
theorem ba_ext {a b : ByteArray} (h : a.data.toList = b.data.toList) : a = b := by rw [← toBA_of a, ← toBA_of b, h]

def wordsText : ByteArray := ⟨#[32, 102, 117, 110, 32, 108, 101, 116, 32, 114, 101, 99, 32, 105, 110, 32, 105, 102, 32, 116, 104, 101, 110, 32, 101, 108, 115, 101, 32, 116, 114, 117, 101, 32, 102, 97, 108, 115, 101, 32, 105, 110, 116, 32, 98, 111, 111, 108, 32]⟩
theorem fields_words : Lib.fields wordsText.data.toList = kws := by decide +kernel
theorem ascii_words : ∀ (j : Nat) (b : UInt8), wordsText.data.toList[j]? = some b → b.toNat < 128 := by
  have h : ∀ b ∈ wordsText.data.toList, b.toNat < 128 := by decide +kernel
  intro j b hb
  exact h b (List.mem_of_getElem? hb)
theorem kw_contains (s : ByteArray) : Lib.containsS (kws.map toBA) s = kwB s.data.toList := by
  rw [Bool.eq_iff_iff, Lib.containsS_iff]
  unfold kwB
  rw [List.contains_iff_mem, List.mem_map]
  constructor
  · rintro ⟨l, hl, rfl⟩; exact hl
  · intro h; exact ⟨_, h, toBA_of s⟩
theorem kws_cells (w : World) (j : Nat) (hj : j < (kws.map toBA).length) : (w.alloc (.cells (kws.map fun l => Value.string ⟨l.toArray⟩).toArray 9)).cell? ⟨w.heap.size, 0 + j, none⟩ = some (.string ((kws.map toBA).getD j ByteArray.empty)) := by
  rw [cell_of_row _ _ _ _ _ (0, 0) (heap_alloc_new w _)]
  have hj' : j < kws.length := by simpa using hj
  simp only [Nat.zero_add, List.getElem?_toArray, List.getElem?_map, List.getD_eq_getElem?_getD]
  rw [List.getElem?_eq_getElem hj']; rfl

set_option maxHeartbeats 1000000 in
theorem keyword_any (s : ByteArray) (w : World) (ht : Spaces w) : Calls Tryd.prog 130 #[.string s] w fun e w' => e = .returned (.bool (kwB s.data.toList)) ∧ Quiet0 w w' := by
  have hF := Tryd.strings_Fields wordsText w (by decide) ascii_words ht
  rw [fields_words] at hF
  have hC := Tryd.slices_Contains_string w.heap.size 0 11 11 (kws.map toBA) s (w.alloc (.cells (kws.map fun l => Value.string ⟨l.toArray⟩).toArray 9)) (by decide) (by decide) (kws_cells w)
  rw [List.take_of_length_le (by decide), kw_contains] at hC
  have HF := Lib.hid hF
  have HC := Lib.hid hC
  clear hF hC ht
  generalize hA : (kws.map fun l => Value.string ⟨l.toArray⟩).toArray = A at *
  have HA := Lib.hid hA
  clear hA
  go_enter Tryd.func130, Tryd.ntmps130
  go_wp2_with fail
  refine HF.out.mono ?_; rintro e w' ⟨rfl, rfl⟩
  go_wp2_with fail
  refine HC.out.mono ?_; rintro e w' ⟨rfl, rfl⟩
  go_wp2
  go_ret
  exact ⟨rfl, Quiet0.alloc _ _⟩

theorem kw_at (j : Nat) (hj : j < 11) : (kws.getD j []) ∈ kws := by
  rw [List.getD_eq_getElem?_getD, List.getElem?_eq_getElem (by exact hj)]; exact List.getElem_mem _
set_option maxHeartbeats 1000000 in
set_option maxRecDepth 100000 in
theorem refKeyword_any (s : ByteArray) (w : World) : Calls Tryd.prog 133 #[.string s] w fun e w' => e = .returned (.bool (kwB s.data.toList)) ∧ Quiet0 w w' := by
  go_enter Tryd.func133, Tryd.ntmps133
  go_wp2
  have hcell : ∀ j, j < 11 → (w.alloc (.cells (kws.map fun l => Value.string ⟨l.toArray⟩).toArray 9)).cell? ⟨w.heap.size, j, none⟩ = some (.string (toBA (kws.getD j []))) := by
    intro j hj
    have := kws_cells w j (by exact hj)
    simp only [Nat.zero_add] at this
    rw [this]
    congr 2
    simp only [List.getD_eq_getElem?_getD, List.getElem?_map]
    rw [List.getElem?_eq_getElem (by exact hj)]; rfl
  have HCELL := Lib.hid hcell
  clear hcell
  obtain ⟨W, hW⟩ : ∃ W, W = w.alloc (.cells (kws.map fun l => Value.string ⟨l.toArray⟩).toArray 9) := ⟨_, rfl⟩
  have HQ : Hid (Quiet0 w W) := by rw [hW]; exact Quiet0.alloc _ _
  rw [← hW] at HCELL
  change Code.wp _ _ _ _ (w.alloc (.cells (kws.map fun l => Value.string ⟨l.toArray⟩).toArray 9))
  rw [← hW]
  clear hW
  generalize w.heap.size = b at *
  go_loop [4] (fun t => ∃ n : Nat, t = .int .i64 n ∧ n ≤ 11 ∧ kwB s.data.toList = (kws.drop n).contains s.data.toList) (fun t => 11 - (intOf t).toNat)
  case atStart => exact ⟨0, rfl, by omega, rfl⟩
  case round =>
    obtain ⟨n, rfl, hn, he⟩ := hrel
    have HE := Lib.hid he
    clear he
    by_cases hlt : n < 11
    · have c := HCELL.out n hlt
      have hd : kws.drop n = kws.getD n [] :: kws.drop (n + 1) := by
        rw [List.drop_eq_getElem_cons (by exact hlt), List.getD_eq_getElem?_getD, List.getElem?_eq_getElem (by exact hlt)]; rfl
      have HD := Lib.hid hd
      clear hd
      have hlt' : (n : Int) < 11 := by omega
      generalize kws.getD n [] = x at *
      cases hx : ((toBA x).toList == s.toList)
      · have hx' : (s.data.toList == x) = false := by
          rw [beq_eq_false_iff_ne] at hx ⊢
          intro h; apply hx; rw [ByteArray.toList_eq, ByteArray.toList_eq, toBA_toList, h]
        have HX' := Lib.hid hx'
        clear hx'
        go_wp2
        go_round
        case rel => exact ⟨n + 1, by go_num, by omega, by rw [HE.out, HD.out, List.contains_cons, HX'.out]; rfl⟩
        case measure => simp [intOf]; omega
      · have hx' : s.data.toList = x := by
          rw [beq_iff_eq] at hx
          rw [ByteArray.toList_eq, ByteArray.toList_eq, toBA_toList] at hx
          exact hx.symm
        have HX' := Lib.hid hx'
        clear hx'
        go_wp2
        go_ret
        exact ⟨by rw [HE.out, HD.out, List.contains_cons, HX'.out]; simp, HQ.out⟩
    · have hn11 : n = 11 := by omega
      subst hn11
      go_wp2
      go_ret
      exact ⟨by rw [HE.out]; rfl, HQ.out⟩
theorem eg_inner : ∀ args w, (callFunc 129 args).run Tryd.prog w = .ok (.enter 129 args) w := enters_of Tryd.func129 (by kernel_rfl) rfl
end Go.Proofs.YtggidhgifaekbaaDoor.Lx
end
