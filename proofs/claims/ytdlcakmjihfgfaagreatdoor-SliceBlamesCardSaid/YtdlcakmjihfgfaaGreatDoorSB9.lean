/-
  Texts laid together (SpRMerge, SpClip, SlInside, SpHas, SpCut, SpClipLaw, SlBuild, SlPlain): what each one proves, and its conditions, stands at its head.
-/
import Derived.Deep.RegionHeld3
import Derived.Deep.DeepCutAuto
import Derived.Deep.CutBlock
import Derived.Deep.QuietTactic
import Derived.Shelf.Strings.BuilderK
import Derived.Lib.IndexLaws
import Derived.Test.YtdlcakmjihfgfaaGreatDoorShelf
import Derived.Test.YtdlcakmjihfgfaaGreatDoorSB1
import Derived.Test.YtdlcakmjihfgfaaGreatDoorSB2
import Derived.Test.YtdlcakmjihfgfaaGreatDoorSB3
import Derived.Test.YtdlcakmjihfgfaaGreatDoorSB4
import Derived.Test.YtdlcakmjihfgfaaGreatDoorSB5
import Derived.Test.YtdlcakmjihfgfaaGreatDoorSB6
import Derived.Test.YtdlcakmjihfgfaaGreatDoorSB7
import Derived.Test.YtdlcakmjihfgfaaGreatDoorSB8
section
/-
  The document's Merge of spans. Conditions: the spans lie in memory as told; there are few.
-/
namespace Go.Proofs.YtdlcakmjihfgfaaGreatDoor
open Go.RowKit Go.Shelf SpanPlain

def box2 (x y : Int) : Obj := .cells #[.int .i64 x, .int .i64 y] 27
theorem box2_cells {w : World} {b : Nat} {x y : Int} (h : w.heap[b]? = some (box2 x y)) : w.cell? ⟨b, 0, none⟩ = some (.int .i64 x) ∧ w.cell? ⟨b, 1, none⟩ = some (.int .i64 y) ∧ w.frozen? ⟨b, 0, none⟩ = false ∧ w.frozen? ⟨b, 1, none⟩ = false := by
  unfold box2 at h
  exact ⟨by rw [cell_of_row _ _ _ _ _ (0, 0) h]; rfl, by rw [cell_of_row _ _ _ _ _ (0, 0) h]; rfl, by simp [World.frozen?, h], by simp [World.frozen?, h]⟩
theorem box2_set {w : World} {b : Nat} {x y x' y' : Int} (h : w.heap[b]? = some (box2 x y)) : ((w.setCell ⟨b, 0, none⟩ (.int .i64 x')).setCell ⟨b, 1, none⟩ (.int .i64 y')).heap[b]? = some (box2 x' y') := by
  unfold box2 at *
  exact sp_set_block (sp_set_block h)
theorem box2_fr {S : Nat → Prop} {w w' : World} {b : Nat} {x y : Int} (h : w.heap[b]? = some (box2 x y)) (hf : Fr S w w') (hS : ¬ S b) : w'.heap[b]? = some (box2 x y) := by
  have hlt : b < w.heap.size := by
    rcases Nat.lt_or_ge b w.heap.size with h' | h'
    · exact h'
    · simp [Array.getElem?_eq_none h'] at h
  exact (hf.block b hlt hS).trans h
theorem rins_at (s : Sp) : ∀ (r : List Sp) (a : Nat), (∀ u ∈ r.take a, u.1 < s.1) → (∀ u, r[a]? = some u → ¬ u.1 < s.1) → rins s r = r.take a ++ [s] ++ r.drop a := by
  have key : ∀ (r : List Sp) (a : Nat), (∀ u ∈ r.take a, u.1 < s.1) → (∀ u, r[a]? = some u → ¬ u.1 < s.1) → r.takeWhile (fun t => decide (t.1 < s.1)) = r.take a ∧ r.dropWhile (fun t => decide (t.1 < s.1)) = r.drop a := by
    intro r
    induction r with
    | nil => intro a _ _; simp
    | cons t r ih =>
      intro a h1 h2
      cases a with
      | zero =>
        have := h2 t rfl
        simp [List.takeWhile_cons, List.dropWhile_cons, this]
      | succ a =>
        have h3 := h1 t (by simp)
        obtain ⟨i1, i2⟩ := ih a (fun u hu => h1 u (by simp; exact .inr hu)) (fun u hu => h2 u (by simpa using hu))
        simp [List.takeWhile_cons, List.dropWhile_cons, h3, i1, i2]
  intro r a h1 h2
  obtain ⟨k1, k2⟩ := key r a h1 h2
  unfold rins
  rw [k1, k2]
theorem take_lt {r : List Sp} {a : Nat} {u : Sp} {p : Sp → Prop} (h : ∀ u ∈ r.take a, p u) (hu : r[a]? = some u) (hp : p u) : ∀ u ∈ r.take (a + 1), p u := by
  intro v hv
  rw [List.take_add_one, hu] at hv
  simp at hv
  rcases hv with h' | rfl
  · exact h v h'
  · exact hp
/-- append of spans that lie somewhere to a row of the call's own, where the order is drawn -/
theorem step_spans {ops : Array Oper} {o : Oper} {a : Act} {K : Act → World → Prop} {Q : Exit → Act → World → Prop} {E : Prop} (W : World) (hg : o.guard = none) (s x : Operand)
    (hop : o.op = .call { callee := .builtin .append, args := #[s, x], argTypes := #[30, 30] })
    (v : Value) (n : Nat) (xs : List Sp) (hn : n = xs.length) (hs : a.eval s = v) (hown : W.ownsRow 0 27 2 v n (flat xs)) (oa : Option Addr) (ys : List Sp) (m c : Nat) (hm : m = ys.length) (hx : a.eval x = .slice oa m c) (hat : SpAt (fun _ => True) W oa ys) (N : Nat) (hN : n + m = N) (hb : N ≤ 1000000)
    (hK : ∀ o' c' w', w'.ownsRow 0 27 2 (.slice o' N c') N (flat (xs ++ ys)) → Fr (fun k => v.ownBlock = some k) W w' → (∀ g, (Value.slice o' N c').ownBlock = some g → v.ownBlock = some g ∨ W.heap.size ≤ g) → K (a.put o.dst (.slice o' N c')) w') :
    if Region.wanted o (yielded ops a.tmps) = true then Oper.wp Tryz.prog o a W K Q else E := by
  subst hN
  refine step_append_row (P := Tryz.prog) W hg s x 30 hop 27 _ 2 16 elemSp v n (flat xs) hs hown oa m c (flat ys) hx (by rw [hm]; exact flat_length ys) (flat_news hat) (flat_one ys) (by unfold maxLen; omega) (by omega) ?_
  intro o' c' w' h1 h2 h3 _
  refine hK o' c' w' (by rw [flat_app]; exact h1) h2 (fun g hg => ?_)
  rcases h3 with h | h
  · rw [h] at hg; exact .inl hg
  · rw [h] at hg; cases hg; exact .inr (Nat.le_refl _)
theorem SpRow.cap {w : World} {B n c : Nat} {o : Option Addr} {l : List Sp} (h : SpRow w B (.slice o n c) l) : l.length ≤ c ∧ (0 < c → ∃ g, o = Option.some ⟨g, 0, none⟩) := by
  rcases h.own.2 with ⟨h1, h2⟩ | ⟨g, cap, cur, he, _, _, hc, _⟩
  · injection h1 with e1 e2 e3
    exact ⟨by omega, fun h => by omega⟩
  · injection he with e1 e2 e3
    exact ⟨by omega, fun _ => ⟨g, e1⟩⟩
theorem sp_sliced {R : Nat → Prop} {w : World} {ro : Option Addr} {rest : List Sp} {a rc : Nat} (h : SpAt R w ro rest) (hc : rest.length ≤ rc) : SpAt R w (if rc = a then ro else Option.map (fun x => x.add (a * 2)) ro) (rest.drop a) := by
  by_cases hca : rc = a
  · rw [if_pos hca, List.drop_of_length_le (by omega)]
    exact SpAt.nil _ _ _
  · rw [if_neg hca]
    intro j t ht
    have ht' := ht
    rw [List.getElem?_drop] at ht'
    obtain ⟨b, off, rfl, _⟩ := h _ t ht'
    have := h.tail (n := a) j t ht
    simpa [Addr.add_lit] using this
theorem sp_empty {w : World} {b : Nat} (h : w.heap[b]? = some (.cells #[] 27 (0, 0))) : w.ownsRow 0 27 2 (.slice (some ⟨b, 0, none⟩) 0 0) 0 (flat []) :=
  ⟨rfl, .inr ⟨b, 0, #[], rfl, Nat.zero_le _, h, Nat.le_refl _, Nat.zero_le _, rfl, rfl⟩⟩
theorem sp_one {w : World} {b : Nat} {x y : Int} (h : w.heap[b]? = some (.cells #[.int .i64 x, .int .i64 y] 27 (0, 0))) : SpAt (fun _ => True) w (some ⟨b, 0, none⟩) [(x, y)] := by
  intro j t ht
  cases j with
  | zero =>
    simp at ht
    subst ht
    exact ⟨b, 0, rfl, trivial, by rw [cell_of_row _ _ _ _ _ (0, 0) h]; rfl, by rw [cell_of_row _ _ _ _ _ (0, 0) h]; rfl⟩
  | succ j => simp at ht
set_option maxRecDepth 100000 in
set_option maxHeartbeats 8000000 in
theorem refMerge_any (l : List Sp) (o : Option Addr) (cap : Nat) (w : World) (R : Nat → Prop) (hs : SpAt R w o l) (hz : l.length ≤ 100000) :
    Calls Tryz.prog 18 #[.slice o l.length cap] w (SpPost w (rmerge l)) := by
  have HS := Lib.hid hs
  obtain ⟨res, hres⟩ : ∃ res, rmerge l = res := ⟨_, rfl⟩
  have HRES : Hid (l.foldl rstep [] = res) := hres
  rw [hres]
  clear hs hres
  go_enter Tryz.func18, Tryz.ntmps18
  go_wp2_with fail
  go_loopw [3, 4] (fun v t wr => ∃ (i : Nat) (out : List Sp), t = .int .i64 i ∧ i ≤ l.length ∧ SpRow wr w.heap.size v out ∧ (l.drop i).foldl rstep out = res ∧ out.length ≤ i ∧ Quiet0 w wr) (fun _ t _ => l.length - (intOf t).toNat)
  case atStart => exact ⟨0, [], rfl, Nat.zero_le _, SpRow.nil _ _, HRES.out, Nat.zero_le _, Quiet0.refl _⟩
  case round =>
    obtain ⟨i, out, rfl, hi, hrow, hr, hoi, hq⟩ := hrel
    have HROW := Lib.hid hrow
    have HR := Lib.hid hr
    have HQ := Lib.hid hq
    obtain ⟨vo, vc, rfl, hmx⟩ := hrow.form
    by_cases hlt : i < l.length
    · have hlt' : (i : Int) < l.length := by omega
      obtain ⟨s, hsi⟩ : ∃ s, l[i]? = some s := ⟨_, List.getElem?_eq_getElem hlt⟩
      obtain ⟨x, y⟩ := s
      obtain ⟨b, off, rfl, _, a0, a1⟩ := HS.out.stay hq i _ hsi
      have HDR := Lib.hid (sp_drop hsi)
      obtain ⟨B5, hB5⟩ : ∃ B5, B5 = wr.heap.size := ⟨_, rfl⟩
      obtain ⟨W0, hW0⟩ : ∃ W0, W0 = wr.alloc (box2 x y) := ⟨_, rfl⟩
      have HQ0 : Hid (Quiet0 wr W0) := by rw [hW0]; exact Quiet0.alloc _ _
      have HB5 : Hid (W0.heap[B5]? = some (box2 x y)) := by rw [hW0, hB5]; exact heap_alloc_new wr _
      have HZ0 : Hid (W0.heap.size = B5 + 1) := by show _ = _; rw [hW0, hB5]; simp
      obtain ⟨b0, b1, bz0, bz1⟩ := box2_cells HB5.out
      have HBE : Hid (B5 = wr.heap.size) := hB5
      have HOA : Hid (∀ W, Fr (fun k => k = B5) W0 W → SpAt (fun _ => True) W vo out) := by
        intro W hf
        exact (HROW.out.slc.lt.stay HQ0.out).fr hf (fun k _ h => ⟨trivial, fun e => by have := h.2; have := HBE.out; omega⟩)
      have HQF : Hid (∀ W, Fr (fun k => k = B5) W0 W → Quiet0 w W) := by
        intro W hf
        exact Fr.trans' (HQ.out.trans HQ0.out) hf (fun k hk e => by have := HBE.out; have := HQ.out.size; omega)
      clear hsi hrow hr hq
      by_cases hxy : y ≤ x
      · have HN : Hid (rstep out (x, y) = out) := by show _ = _; unfold rstep; rw [if_pos (by exact hxy)]
        go_upto_region 6 with fail
        change Code.wp _ _ _ _ (wr.alloc (box2 x y))
        rw [← hW0, ← hB5]
        clear hW0 hB5 a0 a1
        go_wp2_with fail
        go_roundw
        case rel => exact ⟨i + 1, out, by go_num, by omega, HROW.out.stay HQ0.out, by rw [← HR.out, HDR.out, List.foldl_cons, HN.out], by omega, HQ.out.trans HQ0.out⟩
        case measure => simp [intOf]; omega
      · have HN : Hid (rstep out (x, y) = rins (out.foldl absorb ((x, y), [])).1 (out.foldl absorb ((x, y), [])).2) := by show _ = _; unfold rstep; rw [if_neg (by simpa using hxy)]
        obtain ⟨fin, hfin⟩ : ∃ fin, out.foldl absorb ((x, y), []) = fin := ⟨_, rfl⟩
        have HFIN := Lib.hid hfin
        rw [hfin] at HN
        clear hfin
        have hyx : ¬ y ≤ x := hxy
        go_upto_region 6 with fail
        change Code.wp _ _ _ _ (wr.alloc (box2 x y))
        rw [← hW0, ← hB5]
        clear hW0 hB5 a0 a1
        go_wp2_with fail
        generalize hn : out.length = n at *
        have HNL := Lib.hid hn
        clear hn
        go_loopw [6, 7] (fun v t w2 => ∃ (j : Nat) (px py : Int) (rest : List Sp), t = .int .i64 j ∧ j ≤ n ∧ SpRow w2 (B5 + 1) v rest ∧ w2.heap[B5]? = some (box2 px py) ∧ (out.drop j).foldl absorb ((px, py), rest) = fin ∧ rest.length ≤ j ∧ Fr (fun k => k = B5) W0 w2) (fun _ t _ => n - (intOf t).toNat)
        case atStart => exact ⟨0, x, y, [], rfl, Nat.zero_le _, SpRow.nil _ _, HB5.out, HFIN.out, Nat.zero_le _, Fr.refl _ _⟩
        case round =>
          obtain ⟨j, px, py, rest, rfl, hj, hrw, hbx, hra, hrj, hfr⟩ := hrel
          have HRW := Lib.hid hrw
          have HBX := Lib.hid hbx
          have HRA := Lib.hid hra
          have HFR := Lib.hid hfr
          obtain ⟨ro, rc, rfl, hmr⟩ := hrw.form
          obtain ⟨c0, c1, z0, z1⟩ := box2_cells hbx
          have hsz := hfr.size
          clear hrw hbx hra hfr b0 b1 bz0 bz1
          by_cases hlt2 : j < n
          · have hlt2' : (j : Int) < n := by omega
            obtain ⟨t, htj⟩ : ∃ t, out[j]? = some t := ⟨_, List.getElem?_eq_getElem (by have := HNL.out; omega)⟩
            obtain ⟨tx, ty⟩ := t
            obtain ⟨gb, offb, rfl, _, d0, d1⟩ := HOA.out wr HFR.out j _ htj
            have HD2 := Lib.hid (sp_drop htj)
            have hb5 : B5 < wr.heap.size := by have := HZ0.out; omega
            clear htj
            by_cases k1 : tx ≤ py
            · by_cases k2 : px ≤ ty
              · have HAB : Hid (absorb ((px, py), rest) (tx, ty) = ((min px tx, max py ty), rest)) := by show _ = _; unfold absorb; simp only; rw [if_pos ⟨k1, k2⟩]
                go_wp2_with fail
                go_roundw
                case rel =>
                  have hf2 : Fr (fun k => k = B5) wr _ := (Fr.setCell (fun k => k = B5) wr ⟨B5, 0, none⟩ (.int .i64 (min px tx)) rfl).trans (Fr.setCell (fun k => k = B5) _ ⟨B5, 1, none⟩ (.int .i64 (max py ty)) rfl)
                  have hq2 := Quiet0.alloc ((wr.setCell ⟨B5, 0, none⟩ (.int .i64 (min px tx))).setCell ⟨B5, 1, none⟩ (.int .i64 (max py ty))) (box2 tx ty)
                  have hb2 := box2_fr (box2_set (x' := min px tx) (y' := max py ty) HBX.out) hq2 (fun h => h)
                  exact ⟨j + 1, min px tx, max py ty, rest, by go_num, by omega, (HRW.out.fr hf2 (fun k hk e => by have := HRW.out.low k hk; omega)).stay hq2, hb2, by rw [← HRA.out, HD2.out, List.foldl_cons, HAB.out], by omega, (HFR.out.trans hf2).trans (sp_fr hq2)⟩
                case measure => simp [intOf]; omega
              · have HAB : Hid (absorb ((px, py), rest) (tx, ty) = ((px, py), rest ++ [(tx, ty)])) := by show _ = _; unfold absorb; simp only; rw [if_neg (fun h => k2 h.2)]
                go_wp2_with (at_builtin; refine wpList_append_H (wr.alloc (.cells #[.int .i64 tx, .int .i64 ty] 27)) (wr.heap.size + 1) (by simp) rfl (.tmp 58) (.tmp 60) 30 rfl 27 _ 2 16 elemSp (.slice ro rest.length rc) rest.length (flat rest) rfl (HRW.out.stay (Quiet0.alloc _ _)).own #[.int .i64 tx, .int .i64 ty] rfl rfl (by simp [Value.oneCell']) (by unfold maxLen; omega) (by omega) ?_; intro g c' w4 ho hf hg)
                have hq2 := Quiet0.alloc wr (box2 tx ty)
                have HR2 : Hid (SpRow w4 (B5 + 1) (.slice (some ⟨g, 0, none⟩) (rest.length + 1) c') (rest ++ [(tx, ty)])) := by
                  show SpRow _ _ _ _
                  exact SpRow.snoc (x := tx) (y := ty) (HRW.out.stay hq2) ho hg (by have := hq2.size; have := HZ0.out; omega)
                have hlow := HRW.out.low
                have hne : ¬ (Value.slice ro rest.length rc).ownBlock = some B5 := fun h => by have := hlow B5 h; omega
                have HB2 := Lib.hid (box2_fr (box2_fr HBX.out hq2 (fun h => h)) hf hne)
                have HF2 : Hid (Fr (fun k => k = B5) W0 w4) := Lib.hid (Fr.trans' (HFR.out.trans (sp_fr hq2)) hf (fun kk hkk h => by have := hlow kk h; have := HZ0.out; omega))
                clear ho hf hg hq2 hlow hne
                go_wp2_with fail
                go_roundw
                case rel => exact ⟨j + 1, px, py, rest ++ [(tx, ty)], by go_num, by omega, HR2.out, HB2.out, by rw [← HRA.out, HD2.out, List.foldl_cons, HAB.out], by rw [List.length_append, List.length_singleton]; omega, HF2.out⟩
                case measure => simp [intOf]; omega
            · have HAB : Hid (absorb ((px, py), rest) (tx, ty) = ((px, py), rest ++ [(tx, ty)])) := by show _ = _; unfold absorb; simp only; rw [if_neg (fun h => k1 h.1)]
              go_wp2_with (at_builtin; refine wpList_append_H (wr.alloc (.cells #[.int .i64 tx, .int .i64 ty] 27)) (wr.heap.size + 1) (by simp) rfl (.tmp 58) (.tmp 60) 30 rfl 27 _ 2 16 elemSp (.slice ro rest.length rc) rest.length (flat rest) rfl (HRW.out.stay (Quiet0.alloc _ _)).own #[.int .i64 tx, .int .i64 ty] rfl rfl (by simp [Value.oneCell']) (by unfold maxLen; omega) (by omega) ?_; intro g c' w4 ho hf hg)
              have hq2 := Quiet0.alloc wr (box2 tx ty)
              have HR2 : Hid (SpRow w4 (B5 + 1) (.slice (some ⟨g, 0, none⟩) (rest.length + 1) c') (rest ++ [(tx, ty)])) := by
                show SpRow _ _ _ _
                exact SpRow.snoc (x := tx) (y := ty) (HRW.out.stay hq2) ho hg (by have := hq2.size; have := HZ0.out; omega)
              have hlow := HRW.out.low
              have hne : ¬ (Value.slice ro rest.length rc).ownBlock = some B5 := fun h => by have := hlow B5 h; omega
              have HB2 := Lib.hid (box2_fr (box2_fr HBX.out hq2 (fun h => h)) hf hne)
              have HF2 : Hid (Fr (fun k => k = B5) W0 w4) := Lib.hid (Fr.trans' (HFR.out.trans (sp_fr hq2)) hf (fun kk hkk h => by have := hlow kk h; have := HZ0.out; omega))
              clear ho hf hg hq2 hlow hne
              go_wp2_with fail
              go_roundw
              case rel => exact ⟨j + 1, px, py, rest ++ [(tx, ty)], by go_num, by omega, HR2.out, HB2.out, by rw [← HRA.out, HD2.out, List.foldl_cons, HAB.out], by rw [List.length_append, List.length_singleton]; omega, HF2.out⟩
              case measure => simp [intOf]; omega
          · have hlt2' : ¬ (j : Int) < n := by omega
            have HE : Hid (((px, py), rest) = fin) := by have := HRA.out; rw [List.drop_of_length_le (by have := HNL.out; omega)] at this; exact this
            go_upto_block 4 with (fail)
            go_cut [9] (fun t wx => ∃ a : Nat, t = .int .i64 a ∧ a ≤ rest.length ∧ rins (px, py) rest = rest.take a ++ [(px, py)] ++ rest.drop a ∧ Quiet0 wr wx)
            case first =>
              go_wp2_with fail
              go_loopw [9] (fun t wx => ∃ a : Nat, t = .int .i64 a ∧ a ≤ rest.length ∧ (∀ u ∈ rest.take a, u.1 < px) ∧ Quiet0 wr wx) (fun t _ => rest.length - (intOf t).toNat)
              case atStart => exact ⟨0, rfl, Nat.zero_le _, (fun u hu => by simp at hu), Quiet0.refl _⟩
              case round =>
                obtain ⟨a, rfl, ha, hlo, hq4⟩ := hrel
                have HLO := Lib.hid hlo
                have HQ4 := Lib.hid hq4
                obtain ⟨c0, c1, _, _⟩ := box2_cells (box2_fr HBX.out HQ4.out (fun h => h))
                clear hlo hq4
                generalize hrn : rest.length = rn at *
                have HRN := Lib.hid hrn
                clear hrn
                by_cases hlt3 : a < rn
                · have hd0 : decide (a < rn) = true := by simpa using hlt3
                  obtain ⟨u, hua⟩ : ∃ u, rest[a]? = some u := ⟨_, List.getElem?_eq_getElem (by have := HRN.out; omega)⟩
                  obtain ⟨ux, uy⟩ := u
                  obtain ⟨gb, offb, rfl, _, d0, d1⟩ := (HRW.out.stay HQ4.out).slc a _ hua
                  have HUA := Lib.hid hua
                  have hlt3' : (a : Int) < rn := by omega
                  clear hua
                  by_cases k1 : ux < px
                  · go_wp2_with fail
                    go_quiet (fail)
                    go_wp2_with fail
                    go_roundw
                    case rel => exact ⟨a + 1, by go_num, by omega, take_lt HLO.out HUA.out k1, HQ4.out.trans (Quiet0.drewN _ _)⟩
                    case measure => simp [intOf]; omega
                  · go_wp2_with fail
                    go_quiet (fail)
                    go_wp2_with fail
                    go_meet
                    exact ⟨a, rfl, by omega, rins_at _ _ _ HLO.out (fun u hu => by rw [HUA.out] at hu; cases hu; show ¬ ux < px; omega), HQ4.out.trans (Quiet0.drewN _ _)⟩
                · have hd0 : decide (a < rn) = false := by simpa using hlt3
                  go_wp2_with fail
                  go_quiet (fail)
                  go_wp2_with fail
                  go_meet
                  exact ⟨a, rfl, by omega, rins_at _ _ _ HLO.out (fun u hu => by rw [List.getElem?_eq_none (by have := HRN.out; omega)] at hu; cases hu), HQ4.out.trans (Quiet0.drewN _ _)⟩
            case rest =>
              obtain ⟨a, rfl, ha, hri, hq4⟩ := hcut
              have HQ4 := Lib.hid hq4
              have HRI := Lib.hid hri
              have HRW4 := Lib.hid (HRW.out.stay hq4)
              have HC5 : Hid (∀ W, Quiet0 wc W → W.cell? ⟨B5, 0, none⟩ = some (.int .i64 px) ∧ W.cell? ⟨B5, 1, none⟩ = some (.int .i64 py)) := by
                intro W hq
                obtain ⟨k0, k1, _, _⟩ := box2_cells (box2_fr (box2_fr HBX.out hq4 (fun h => h)) hq (fun h => h))
                exact ⟨k0, k1⟩
              obtain ⟨h50, h51⟩ := HC5.out wc (Quiet0.refl _)
              have HTK : Hid (SpAt (fun _ => True) wc ro (rest.take a)) := Lib.hid ((HRW4.out.slc.mono (fun _ _ _ => trivial)).take a)
              have HTL : Hid (a = (rest.take a).length) := by show _ = _; rw [List.length_take]; omega
              have HTL1 : Hid (a + 1 = ([] ++ rest.take a ++ [(px, py)]).length) := by show _ = _; rw [List.length_append, List.nil_append, List.length_take]; simp; omega
              obtain ⟨N, hN⟩ : ∃ N, N = rest.length + 1 := ⟨_, rfl⟩
              have HNB : Hid (N ≤ 1000000) := by show _ ≤ _; omega
              have HNN0 : Hid (a + 1 + (rest.length - a) = N) := by show _ = _; omega
              have HNN := HNN0
              have hcap : rest.length ≤ rc := HRW4.out.cap.1
              have hwc : w.heap.size ≤ wc.heap.size := Nat.le_trans (HQF.out _ HFR.out).size HQ4.out.size
              have hai : (0 : Int) ≤ (a : Int) := by omega
              have har : (a : Int) ≤ (rc : Int) := by omega
              have har2 : (a : Int) ≤ (rest.length : Int) := by omega
              have HNE := Lib.hid hN
              clear hq4 hri hN
              have HDL : Hid (rest.length - a = (rest.drop a).length) := by show _ = _; rw [List.length_drop]
              have HDK : Hid (SpAt (fun _ => True) wc (if rc = a then ro else Option.map (fun x => x.add (a * 2)) ro) (rest.drop a)) := Lib.hid (sp_sliced (HRW4.out.slc.mono (T := fun _ => True) (fun _ _ _ => trivial)) hcap)
              go_wp2_with fail
              have hqc := Quiet0.refl wc
              go_region_held3 (fun w' => w'.cell? ⟨B5, 0, none⟩ = some (.int .i64 px) ∧ w'.cell? ⟨B5, 1, none⟩ = some (.int .i64 py))
                (((refine HC5.out _ ?_); (repeat (first | with_reducible exact hqc | with_reducible exact Quiet0.refl _ | with_reducible refine Quiet0.trans ?_ (Quiet0.alloc _ _) | with_reducible refine Quiet0.trans ?_ (Quiet0.drew _) | fail))))
                (first
                  | ((refine step_spans _ rfl (.tmp 78) (.tmp 81) rfl (.slice (some ⟨wc.heap.size, 0, none⟩) 0 0) 0 [] rfl rfl ?hown ro (rest.take a) a rc HTL.out rfl ?hat a (Nat.zero_add a) (by omega) ?_); (case hown => ((refine sp_empty ?_); (repeat (first | ((with_reducible refine blk_new _ _ _ _ ?hbe); (case hbe => (simp; done))) | with_reducible refine blk_after (Quiet0.alloc _ _) ?_ | with_reducible refine blk_drew ?_ | ((with_reducible refine blk_fr hf3 ?hbo ?_); (case hbo => (simp [Value.ownBlock]; done))) | ((with_reducible refine blk_fr hf3 ?hbo ?_); (case hbo => (simp [Value.ownBlock]; omega))) | fail)))); (case hat => ((refine HTK.out.stay ?_); (repeat (first | with_reducible exact hqc | with_reducible exact Quiet0.refl _ | with_reducible refine Quiet0.trans ?_ (Quiet0.alloc _ _) | with_reducible refine Quiet0.trans ?_ (Quiet0.drew _) | fail)))); intro o3 c3 w3 ho3 hf3 hb3; (refine with_fr2 (w0 := wc) ?hch hf3 ?hlo ?_); (case hch => (repeat (first | with_reducible exact hqc | with_reducible exact Quiet0.refl _ | with_reducible refine Quiet0.trans ?_ (Quiet0.alloc _ _) | with_reducible refine Quiet0.trans ?_ (Quiet0.drew _) | fail))); (case hlo => (intro k hk; simp [Value.ownBlock] at hk; omega)); intro hqc hw3)
                  | ((refine step_spans _ rfl (.tmp 78) (.tmp 81) rfl (.slice (some ⟨wc.heap.size + 1, 0, none⟩) 0 0) 0 [] rfl rfl ?hown ro (rest.take a) a rc HTL.out rfl ?hat a (Nat.zero_add a) (by omega) ?_); (case hown => ((refine sp_empty ?_); (repeat (first | ((with_reducible refine blk_new _ _ _ _ ?hbe); (case hbe => (simp; done))) | with_reducible refine blk_after (Quiet0.alloc _ _) ?_ | with_reducible refine blk_drew ?_ | ((with_reducible refine blk_fr hf3 ?hbo ?_); (case hbo => (simp [Value.ownBlock]; done))) | ((with_reducible refine blk_fr hf3 ?hbo ?_); (case hbo => (simp [Value.ownBlock]; omega))) | fail)))); (case hat => ((refine HTK.out.stay ?_); (repeat (first | with_reducible exact hqc | with_reducible exact Quiet0.refl _ | with_reducible refine Quiet0.trans ?_ (Quiet0.alloc _ _) | with_reducible refine Quiet0.trans ?_ (Quiet0.drew _) | fail)))); intro o3 c3 w3 ho3 hf3 hb3; (refine with_fr2 (w0 := wc) ?hch hf3 ?hlo ?_); (case hch => (repeat (first | with_reducible exact hqc | with_reducible exact Quiet0.refl _ | with_reducible refine Quiet0.trans ?_ (Quiet0.alloc _ _) | with_reducible refine Quiet0.trans ?_ (Quiet0.drew _) | fail))); (case hlo => (intro k hk; simp [Value.ownBlock] at hk; omega)); intro hqc hw3)
                  | ((refine step_spans _ rfl (.tmp 82) (.tmp 84) rfl (.slice o3 a c3) a ([] ++ rest.take a) HTL.out rfl ?hown (some ⟨wc.heap.size, 0, none⟩) [(px, py)] 1 1 rfl rfl ?hat (a + 1) rfl (by omega) ?_); (case hown => (first | with_reducible exact ho3 | with_reducible exact ho3.alloc _ | fail)); (case hat => ((refine sp_one ?_); (repeat (first | ((with_reducible refine blk_new _ _ _ _ ?hbe); (case hbe => (simp; done))) | with_reducible refine blk_after (Quiet0.alloc _ _) ?_ | with_reducible refine blk_drew ?_ | ((with_reducible refine blk_fr hf3 ?hbo ?_); (case hbo => (simp [Value.ownBlock]; done))) | ((with_reducible refine blk_fr hf3 ?hbo ?_); (case hbo => (simp [Value.ownBlock]; omega))) | fail)))); intro o4 c4 w4 ho4 hf4 hb4; (refine with_fr2 (w0 := wc) ?hch hf4 ?hlo ?_); (case hch => (repeat (first | with_reducible exact hqc | with_reducible exact Quiet0.refl _ | with_reducible refine Quiet0.trans ?_ (Quiet0.alloc _ _) | with_reducible refine Quiet0.trans ?_ (Quiet0.drew _) | fail))); (case hlo => (intro k hk; rcases hb3 k hk with h | h; (simp [Value.ownBlock] at h; omega); ((try simp at h); omega))); intro hqc hw4)
                  | ((refine step_spans _ rfl (.tmp 82) (.tmp 84) rfl (.slice o3 a c3) a ([] ++ rest.take a) HTL.out rfl ?hown (some ⟨wc.heap.size + 1, 0, none⟩) [(px, py)] 1 1 rfl rfl ?hat (a + 1) rfl (by omega) ?_); (case hown => (first | with_reducible exact ho3 | with_reducible exact ho3.alloc _ | fail)); (case hat => ((refine sp_one ?_); (repeat (first | ((with_reducible refine blk_new _ _ _ _ ?hbe); (case hbe => (simp; done))) | with_reducible refine blk_after (Quiet0.alloc _ _) ?_ | with_reducible refine blk_drew ?_ | ((with_reducible refine blk_fr hf3 ?hbo ?_); (case hbo => (simp [Value.ownBlock]; done))) | ((with_reducible refine blk_fr hf3 ?hbo ?_); (case hbo => (simp [Value.ownBlock]; omega))) | fail)))); intro o4 c4 w4 ho4 hf4 hb4; (refine with_fr2 (w0 := wc) ?hch hf4 ?hlo ?_); (case hch => (repeat (first | with_reducible exact hqc | with_reducible exact Quiet0.refl _ | with_reducible refine Quiet0.trans ?_ (Quiet0.alloc _ _) | with_reducible refine Quiet0.trans ?_ (Quiet0.drew _) | fail))); (case hlo => (intro k hk; rcases hb3 k hk with h | h; (simp [Value.ownBlock] at h; omega); ((try simp at h); omega))); intro hqc hw4)
                  | ((refine step_spans _ rfl (.tmp 82) (.tmp 84) rfl (.slice o3 a c3) a ([] ++ rest.take a) HTL.out rfl ?hown (some ⟨w3.heap.size, 0, none⟩) [(px, py)] 1 1 rfl rfl ?hat (a + 1) rfl (by omega) ?_); (case hown => (first | with_reducible exact ho3 | with_reducible exact ho3.alloc _ | fail)); (case hat => ((refine sp_one ?_); (repeat (first | ((with_reducible refine blk_new _ _ _ _ ?hbe); (case hbe => (simp; done))) | with_reducible refine blk_after (Quiet0.alloc _ _) ?_ | with_reducible refine blk_drew ?_ | ((with_reducible refine blk_fr hf3 ?hbo ?_); (case hbo => (simp [Value.ownBlock]; done))) | ((with_reducible refine blk_fr hf3 ?hbo ?_); (case hbo => (simp [Value.ownBlock]; omega))) | fail)))); intro o4 c4 w4 ho4 hf4 hb4; (refine with_fr2 (w0 := wc) ?hch hf4 ?hlo ?_); (case hch => (repeat (first | with_reducible exact hqc | with_reducible exact Quiet0.refl _ | with_reducible refine Quiet0.trans ?_ (Quiet0.alloc _ _) | with_reducible refine Quiet0.trans ?_ (Quiet0.drew _) | fail))); (case hlo => (intro k hk; rcases hb3 k hk with h | h; (simp [Value.ownBlock] at h; omega); ((try simp at h); omega))); intro hqc hw4)
                  | ((refine step_spans _ rfl (.tmp 85) (.tmp 88) rfl (.slice o4 (a + 1) c4) (a + 1) ([] ++ rest.take a ++ [(px, py)]) HTL1.out rfl ?hown (if rc = a then ro else Option.map (fun x => x.add (a * 2)) ro) (rest.drop a) (rest.length - a) (rc - a) HDL.out rfl ?hat N HNN.out HNB.out ?_); (case hown => (first | with_reducible exact ho4 | with_reducible exact ho4.alloc _ | fail)); (case hat => ((refine HDK.out.stay ?_); (repeat (first | with_reducible exact hqc | with_reducible exact Quiet0.refl _ | with_reducible refine Quiet0.trans ?_ (Quiet0.alloc _ _) | with_reducible refine Quiet0.trans ?_ (Quiet0.drew _) | fail)))); intro o5 c5 w5 ho5 hf5 hb5; (refine with_fr2 (w0 := wc) ?hch hf5 ?hlo ?_); (case hch => (repeat (first | with_reducible exact hqc | with_reducible exact Quiet0.refl _ | with_reducible refine Quiet0.trans ?_ (Quiet0.alloc _ _) | with_reducible refine Quiet0.trans ?_ (Quiet0.drew _) | fail))); (case hlo => (intro k hk; rcases hb4 k hk with h | h; (rcases hb3 k h with h | h; (simp [Value.ownBlock] at h; omega); ((try simp at h); omega)); ((try simp at h); omega))); intro hqc hw5)
                  | fail)
              all_goals
                go_wp2_with fail
                go_roundw
                case rel =>
                  have e : (rest.take a ++ [(px, py)] ++ rest.drop a).length = N := by have h1 := HTL.out; have h2 := HDL.out; have h3 := HNN.out; simp only [List.length_append, List.length_singleton]; omega
                  refine ⟨i + 1, rest.take a ++ [(px, py)] ++ rest.drop a, by go_num, by omega, ⟨?_, fun k hk => ?_⟩, by rw [← HR.out, HDR.out, List.foldl_cons, HN.out, ← HE.out, HRI.out], by rw [e]; have := HNE.out; omega, (HQF.out _ HFR.out).trans (HQ4.out.trans hqc)⟩
                  · rw [e]; simpa using ho5
                  · rcases hb5 k hk with h | h
                    · rcases hb4 k h with h | h
                      · rcases hb3 k h with h | h
                        · simp [Value.ownBlock] at h; omega
                        · (try simp at h); omega
                      · (try simp at h); omega
                    · (try simp at h); omega
                case measure => simp [intOf]; omega
    · have hlt' : ¬ (i : Int) < l.length := by omega
      have hfin : out = res := by rw [List.drop_of_length_le (by omega)] at hr; exact hr
      have HFIN := Lib.hid hfin
      clear hfin hrow hr hq
      go_wp2_with fail
      go_ret
      refine ⟨_, rfl, ?_, HQ.out⟩
      rw [← HFIN.out]
      exact HROW.out
end Go.Proofs.YtdlcakmjihfgfaaGreatDoor
end
section
/-
  span.clip. Conditions: the spans lie in memory as told; there are few; the text is short.
-/
namespace Go.Proofs.YtdlcakmjihfgfaaGreatDoor
open Go.RowKit Go.Shelf SpanPlain

def toZ (p : Nat × Nat) : Sp := ((p.1 : Int), (p.2 : Int))
def clipZ1 (n : Int) (s : Sp) : Option Sp := if max 0 s.1 < min n s.2 then some (max 0 s.1, min n s.2) else none
def clipZ (n : Int) (m : List Sp) : List Sp := m.filterMap (clipZ1 n)
theorem clipZ_N (n : Nat) (m : List Sp) : clipZ n m = (clipN n m).map toZ := by
  unfold clipZ clipN
  induction m with
  | nil => rfl
  | cons s m ih =>
    rw [List.filterMap_cons, List.filterMap_cons, ih]
    unfold clipZ1 clip1
    by_cases c : max 0 s.1 < min (n : Int) s.2
    · rw [if_pos c, if_pos c]
      simp only [List.map_cons]
      congr 1
      unfold toZ
      rw [Int.toNat_of_nonneg (by omega), Int.toNat_of_nonneg (by omega)]
    · rw [if_neg c, if_neg c]
theorem clipZ_step (n : Int) {m : List Sp} {i : Nat} {x y : Int} (h : m[i]? = some (x, y)) : clipZ n (m.take (i + 1)) = clipZ n (m.take i) ++ (if max 0 x < min n y then [(max 0 x, min n y)] else []) := by
  unfold clipZ
  rw [List.take_add_one, h, List.filterMap_append]
  congr 1
  simp only [Option.toList_some, List.filterMap_cons, List.filterMap_nil, clipZ1]
  by_cases c : max 0 x < min n y
  · rw [if_pos c, if_pos c]
  · rw [if_neg c, if_neg c]
theorem clipN_mem {n : Nat} {m : List Sp} {p : Nat × Nat} (h : p ∈ clipN n m) : p.1 < p.2 ∧ p.2 ≤ n := by
  unfold clipN at h
  rw [List.mem_filterMap] at h
  obtain ⟨s, _, hs⟩ := h
  unfold clip1 at hs
  by_cases c : max 0 s.1 < min (n : Int) s.2
  · rw [if_pos c] at hs
    cases hs
    exact ⟨by show (max 0 s.1).toNat < (min (n : Int) s.2).toNat; omega, by show (min (n : Int) s.2).toNat ≤ n; omega⟩
  · rw [if_neg c] at hs; cases hs
theorem clipN_length (n : Nat) (m : List Sp) : (clipN n m).length ≤ m.length := List.length_filterMap_le _ _
theorem toZ_get {c : List (Nat × Nat)} {i : Nat} {p : Nat × Nat} (h : c[i]? = some p) : (c.map toZ)[i]? = some ((p.1 : Int), (p.2 : Int)) := by
  rw [List.getElem?_map, h]; rfl
end Go.Proofs.YtdlcakmjihfgfaaGreatDoor
end
section
/-
  slice.inside. Conditions: the spans lie in memory as told; there are few; the text is short.
-/
namespace Go.Proofs.YtdlcakmjihfgfaaGreatDoor
open Go.RowKit Go.Shelf SpanPlain

set_option maxRecDepth 100000 in
set_option maxHeartbeats 4000000 in
theorem insideS_any (text : ByteArray) (l : List Sp) (o : Option Addr) (cap : Nat) (w : World) (R : Nat → Prop) (hs : SpAt R w o l) (hz : l.length ≤ 100000) (hm : (rmerge l).length ≤ 1000000) :
    Calls Tryz.prog 38 #[.string text, .slice o l.length cap] w (SpPost w (clipZ text.size (rmerge l))) := by
  obtain ⟨n, hnt⟩ : ∃ n : Int, n = text.size := ⟨_, rfl⟩
  have HNT := Lib.hid hnt
  rw [← hnt]
  have HM := Lib.hid (merge_any l o cap w R hs hz)
  obtain ⟨m, hme⟩ : ∃ m, rmerge l = m := ⟨_, rfl⟩
  rw [hme] at HM hm
  rw [hme]
  obtain ⟨res, hres⟩ : ∃ res, clipZ n m = res := ⟨_, rfl⟩
  have HRES := Lib.hid hres
  rw [hres]
  clear hs hme hres hnt
  go_enter Tryz.func38, Tryz.ntmps38
  go_wp2_with fail
  refine HM.out.mono ?_; rintro e w1 ⟨v1, rfl, hr1, hq1⟩
  obtain ⟨o1, c1, rfl, hmx1⟩ := hr1.form
  have HR1 := Lib.hid hr1.slc
  have HQ1 := Lib.hid hq1
  clear hr1 hq1 HM
  go_wp2_with fail
  go_loopw [5, 11] (fun v t wr => ∃ (i : Nat) (out : List Sp), t = .int .i64 i ∧ i ≤ m.length ∧ SpRow wr w1.heap.size v out ∧ clipZ n (m.take i) = out ∧ out.length ≤ i ∧ Quiet0 w1 wr) (fun _ t _ => m.length - (intOf t).toNat)
  case atStart => exact ⟨0, [], rfl, Nat.zero_le _, SpRow.nil _ _, rfl, Nat.zero_le _, Quiet0.refl _⟩
  case round =>
    obtain ⟨i, out, rfl, hi, hrow, hr, hoi, hq⟩ := hrel
    have HROW := Lib.hid hrow
    have HR := Lib.hid hr
    have HQ := Lib.hid hq
    obtain ⟨vo, vc, rfl, hmx⟩ := hrow.form
    by_cases hlt : i < m.length
    · have hlt' : (i : Int) < m.length := by omega
      obtain ⟨s, hsi⟩ : ∃ s, m[i]? = some s := ⟨_, List.getElem?_eq_getElem hlt⟩
      obtain ⟨x, y⟩ := s
      obtain ⟨b, off, rfl, _, a0, a1⟩ := HR1.out.stay hq i _ hsi
      have HDR := Lib.hid (clipZ_step n hsi)
      obtain ⟨xa, hxa⟩ : ∃ xa, xa = max 0 x := ⟨_, rfl⟩
      obtain ⟨ya, hya⟩ : ∃ ya, ya = min n y := ⟨_, rfl⟩
      rw [← hxa, ← hya] at HDR
      obtain ⟨W0, hW0⟩ : ∃ W0, W0 = wr.alloc (.cells #[.int .i64 xa, .int .i64 ya] 27) := ⟨_, rfl⟩
      have HQ0 : Hid (Quiet0 wr W0) := by rw [hW0]; exact Quiet0.alloc _ _
      have HB0 : Hid (W0.heap[wr.heap.size]? = some (.cells #[.int .i64 xa, .int .i64 ya] 27 (0, 0))) := by rw [hW0]; exact heap_alloc_new wr _
      have b0 : W0.cell? ⟨wr.heap.size, 0, none⟩ = some (.int .i64 xa) := by rw [cell_of_row _ _ _ _ _ (0, 0) HB0.out]; rfl
      have b1 : W0.cell? ⟨wr.heap.size, 1, none⟩ = some (.int .i64 ya) := by rw [cell_of_row _ _ _ _ _ (0, 0) HB0.out]; rfl
      have HZ0 : Hid (W0.heap.size = wr.heap.size + 1) := by show _ = _; rw [hW0]; simp
      have hya2 : ya = min (text.size : Int) y := by rw [hya, HNT.out]
      clear hsi hrow hr hq
      go_upto_region 6 with fail
      rw [← hxa, ← hya2, ← hW0]
      clear hW0 hxa hya hya2
      by_cases hc : xa < ya
      · rw [if_pos hc] at HDR
        have hq2 := HQ0.out
        go_wp2_with (at_builtin; refine wpList_append_one W0 rfl (.tmp 29) (.tmp 31) 30 rfl 27 _ 2 16 elemSp (.slice vo out.length vc) out.length (flat out) rfl (HROW.out.stay HQ0.out).own #[.int .i64 xa, .int .i64 ya] rfl rfl (by simp [Value.oneCell']) (by unfold maxLen; omega) (by omega) ?_; intro g c' w4 ho hf hg)
        have HR2 : Hid (SpRow w4 w1.heap.size (.slice (some ⟨g, 0, none⟩) (out.length + 1) c') (out ++ [(xa, ya)])) := by
          show SpRow _ _ _ _
          exact SpRow.snoc (x := xa) (y := ya) (HROW.out.stay hq2) ho hg (Nat.le_trans HQ.out.size hq2.size)
        have HQ2 : Hid (Quiet0 w1 w4) := Lib.hid (Fr.trans' (HQ.out.trans hq2) hf (fun kk hkk h => by have := HROW.out.low kk h; omega))
        clear ho hf hg hq2
        go_wp2_with fail
        go_roundw
        case rel => exact ⟨i + 1, out ++ [(xa, ya)], by go_num, by omega, HR2.out, by rw [HDR.out, HR.out], by rw [List.length_append, List.length_singleton]; omega, HQ2.out⟩
        case measure => simp [intOf]; omega
      · rw [if_neg hc, List.append_nil] at HDR
        go_wp2_with fail
        go_roundw
        case rel => exact ⟨i + 1, out, by go_num, by omega, HROW.out.stay HQ0.out, by rw [HDR.out, HR.out], by omega, HQ.out.trans HQ0.out⟩
        case measure => simp [intOf]; omega
    · have hlt' : ¬ (i : Int) < m.length := by omega
      have hfin : out = res := by rw [List.take_of_length_le (by omega)] at hr; rw [← hr]; exact HRES.out
      have HFIN := Lib.hid hfin
      clear hfin hrow hr hq
      go_wp2_with fail
      go_ret
      refine ⟨_, rfl, ?_, HQ1.out.trans HQ.out⟩
      rw [← HFIN.out]
      exact ⟨HROW.out.own, fun k hk => Nat.le_trans HQ1.out.size (HROW.out.low k hk)⟩
end Go.Proofs.YtdlcakmjihfgfaaGreatDoor
end
section
/-
  The document's Has of spans. Condition: the spans lie in memory as told.
-/
namespace Go.Proofs.YtdlcakmjihfgfaaGreatDoor
open Go.RowKit SpanPlain

def hasP (i : Int) (t : Sp) : Bool := decide (t.1 ≤ i) && decide (i < t.2)
end Go.Proofs.YtdlcakmjihfgfaaGreatDoor
end
section
/-
  span.Cut, the document's Cut and Texts. Conditions: the spans lie in memory as told; there are few; the text is short.
-/
namespace Go.Proofs.YtdlcakmjihfgfaaGreatDoor
open Go.RowKit Go.Shelf SpanPlain

theorem elemS : Elem Tryz.prog 104 9 (.string ByteArray.empty) 1 16 :=
  ⟨Tryz.underlying104, by kernel_rfl, by decide, by decide⟩
/-- a slice's texts -/
def StrAt (w : World) (o : Option Addr) (l : List ByteArray) : Prop := ∀ j s, l[j]? = some s → ∃ b off, o = some ⟨b, off, none⟩ ∧ w.cell? ⟨b, off + j, none⟩ = some (.string s)
theorem StrAt.stay {w w' : World} {o : Option Addr} {l : List ByteArray} (h : StrAt w o l) (hq : Quiet0 w w') : StrAt w' o l := by
  intro j s hs
  obtain ⟨b, off, h0, h1⟩ := h j s hs
  exact ⟨b, off, h0, hq.at h1⟩
def strs (l : List ByteArray) : List Value := l.map .string
/-- a row of texts of the call's own -/
structure StrRow (w : World) (B : Nat) (v : Value) (l : List ByteArray) : Prop where
  own : w.ownsRow 0 9 1 v l.length (strs l)
  low : ∀ k, v.ownBlock = some k → B ≤ k
theorem StrRow.nil (w : World) (B : Nat) : StrRow w B (.slice none 0 0) [] := ⟨World.ownsRow_nil _ _ _ _, fun k hk => (by cases hk)⟩
theorem StrRow.stay {w w' : World} {B : Nat} {v : Value} {l : List ByteArray} (h : StrRow w B v l) (hf : Quiet0 w w') : StrRow w' B v l :=
  ⟨ownsRow_fr h.own hf (fun _ _ h => h), h.low⟩
theorem StrRow.form {w : World} {B : Nat} {v : Value} {l : List ByteArray} (h : StrRow w B v l) : ∃ o c, v = .slice o l.length c ∧ l.length ≤ maxLen ∧ StrAt w o l := by
  rcases h.own.2 with ⟨h1, h2⟩ | ⟨g, cap, cur, rfl, h2, h3, h4, h5, _⟩
  · have e : l = [] := List.eq_nil_of_length_eq_zero h2
    subst e
    exact ⟨none, 0, h1, Nat.zero_le _, fun j s hs => by simp at hs⟩
  · refine ⟨_, cap, rfl, Nat.le_trans h4 h5, fun j s hs => ⟨g, 0, rfl, ?_⟩⟩
    have := h.own.cells (g := g) rfl j (.string s) (by unfold strs; rw [List.getElem?_map, hs]; rfl)
    simpa [Addr.add_lit] using this
theorem StrRow.snoc {W w1 : World} {B : Nat} {v : Value} {l : List ByteArray} {s : ByteArray} {g c : Nat} (hr : StrRow W B v l)
    (ho : w1.ownsRow 0 9 1 (.slice (some ⟨g, 0, none⟩) (l.length + 1) c) (l.length + 1) (strs l ++ #[Value.string s].toList)) (hg : v.ownBlock = some g ∨ W.heap.size ≤ g) (hB : B ≤ W.heap.size) :
    StrRow w1 B (.slice (some ⟨g, 0, none⟩) (l.length + 1) c) (l ++ [s]) := by
  refine ⟨?_, fun k hk => ?_⟩
  · have e : strs (l ++ [s]) = strs l ++ #[Value.string s].toList := by simp [strs]
    rw [e, List.length_append]; exact ho
  · simp [Value.ownBlock] at hk
    subst hk
    rcases hg with h | h
    · exact hr.low g h
    · omega
def StPost (w : World) (l : List ByteArray) (e : Ending) (w' : World) : Prop := ∃ v, e = .returned v ∧ StrRow w' w.heap.size v l ∧ Quiet0 w w'
abbrev part (text : ByteArray) (p : Nat × Nat) : ByteArray := text.extract p.1 p.2
theorem part_step {text : ByteArray} {c : List (Nat × Nat)} {i : Nat} {p : Nat × Nat} (h : c[i]? = some p) : (c.take (i + 1)).map (part text) = (c.take i).map (part text) ++ [text.extract p.1 p.2] := by
  rw [List.take_add_one, h, List.map_append]; rfl
end Go.Proofs.YtdlcakmjihfgfaaGreatDoor
end
section
/-
  Which bytes the clipped spans have: plain laws.
-/
namespace Go.Proofs.YtdlcakmjihfgfaaGreatDoor
open Go.RowKit Go.Shelf SpanPlain

abbrev hasN (l : List Sp) (x : Nat) : Bool := l.any (hasP (x : Int))
theorem hasN_cov (l : List Sp) (x : Int) : l.any (hasP x) = true ↔ Cov l x := by
  rw [List.any_eq_true]
  unfold Cov hasP
  constructor
  · rintro ⟨s, hs, h⟩; simp at h; exact ⟨s, hs, h⟩
  · rintro ⟨s, hs, h⟩; exact ⟨s, hs, by simpa using h⟩
theorem hass_clip (n : Nat) (l : List Sp) : Hass 0 n (clipN n (rmerge l)) (hasN l) := by
  intro x _ hx
  rw [clip_has n _ x hx, rmerge_cov]
  exact hasN_cov l x
theorem inN_clip (n : Nat) (l : List Sp) : InN 0 n (clipN n (rmerge l)) := clip_in n _ 0 (rmerge_canon l) (fun s _ => by omega) (by omega)
theorem cnt_clip (n : Nat) (l : List Sp) : cnt (hasN l) 0 n = sumN (clipN n (rmerge l)) := cnt_parts n _ _ 0 (Nat.zero_le _) (inN_clip n l) (hass_clip n l)
theorem cut_clip (text : ByteArray) (l : List Sp) : run (cutStep text (hasN l)) 0 (text.size + 1) (ByteArray.empty, []) = (ByteArray.empty, (clipN text.size (rmerge l)).map (part text)) := by
  rw [cut_parts text (hasN l) _ 0 [] (by omega) (inN_clip _ l) (hass_clip _ l)]; rfl
end Go.Proofs.YtdlcakmjihfgfaaGreatDoor
end
section
/-
  (*strings.Builder).WriteString and String, of a builder of the call's own. Condition: what it holds is not too long.
-/
namespace Go.Proofs.YtdlcakmjihfgfaaGreatDoor
open Go.RowKit Go.Shelf

/-- a builder in block b (from B on) that holds a text -/
def SB (B b : Nat) (acc : ByteArray) (W : World) : Prop := Lib.IsBuilderF 48 5 B b (Lib.byteCells acc.data.toList) W
abbrev Kept8 (b : Nat) (w w' : World) : Prop := Lib.OthersKept 5 (some b) w w'
theorem SB.stay {B b : Nat} {acc : ByteArray} {W W' : World} (h : SB B b acc W) (hq : Quiet0 W W') : SB B b acc W' := by
  have hg : W.grownBy W' none := ⟨hq.os, hq.tape, hq.output, hq.size, fun k hk _ => hq.block k hk (fun h => h)⟩
  have em : ∀ v : Value, v.ownBlock = none ∨ v.ownBlock ≠ none := fun v => by cases v.ownBlock <;> simp
  rcases h with ⟨k1, v, k2, k3, k4⟩ | ⟨k1, v, k2, k3, k4⟩
  · exact .inl ⟨k1, v, (hq.block _ (lt_of_block k2) (fun h => h)).trans k2, k3.kept hg (em v), k4⟩
  · exact .inr ⟨k1, v, (hq.block _ (lt_of_block k2) (fun h => h)).trans k2, k3.kept hg (em v), k4⟩
theorem SB.new (W : World) : SB W.heap.size W.heap.size ByteArray.empty (W.alloc (.cells #[.pointer none, .slice none 0 0] 48)) :=
  .inl ⟨Nat.le_refl _, .slice none 0 0, heap_alloc_new W _, World.ownsRowF_nil _ _ _ _, by simp [Value.ownBlock]⟩
theorem SB.lt {B b : Nat} {acc : ByteArray} {W : World} (h : SB B b acc W) : b < W.heap.size := by
  rcases h with ⟨_, v, k2, _⟩ | ⟨_, v, k2, _⟩ <;> exact lt_of_block k2
set_option maxRecDepth 100000 in
set_option maxHeartbeats 1000000 in
theorem checkUsed_any (b : Nat) (w : World) (h0 : w.cell? ⟨b, 0, none⟩ = some (.pointer (some ⟨b, 0, none⟩))) :
    Calls Tryz.prog 39 #[.pointer (some ⟨b, 0, none⟩)] w fun e w' => e = .returned (.tuple #[]) ∧ w = w' := by
  obtain ⟨j, hj, _⟩ := Option.map_eq_some_iff.1 (show (Tryz.prog.info? 48).map (fun i => i.size) = some 2 by kernel_rfl)
  go_enter Tryz.func39, Tryz.ntmps39
  go_wp2_with fail
  rw [Lib.run_neq_ptr_same w _ Tryz.underlying45 hj]
  go_wp2_with fail
  go_end0
  exact ⟨rfl, rfl⟩
set_option maxRecDepth 100000 in
set_option maxHeartbeats 1000000 in
theorem checkFresh_any (b : Nat) (w : World) (h0 : w.cell? ⟨b, 0, none⟩ = some (.pointer none)) (hsh : w.shape? b = some (48, 2)) (hfz : w.frozen? ⟨b, 0, none⟩ = false) :
    Calls Tryz.prog 39 #[.pointer (some ⟨b, 0, none⟩)] w fun e w' => e = .returned (.tuple #[]) ∧ w' = w.setCell ⟨b, 0, none⟩ (.pointer (some ⟨b, 0, none⟩)) := by
  obtain ⟨j, hj, hjs⟩ := Option.map_eq_some_iff.1 (show (Tryz.prog.info? 48).map (fun i => i.size) = some 2 by kernel_rfl)
  go_enter Tryz.func39, Tryz.ntmps39
  go_wp2_with fail
  rw [Lib.run_to_unsafe w ⟨b, 0, none⟩ Tryz.underlying45 Tryz.underlying90 hj (by rw [hjs]; decide) hsh (Nat.zero_lt_succ 1)]
  simp only [Result.andThen]
  rw [Oper.upon_value]
  go_wp2_with fail
  rw [run_callFunc_extern Tryz.func64 (by kernel_rfl) (by kernel_rfl) (by kernel_rfl) (e := Extern.AbiNoEscape.same) (by kernel_rfl)]
  rw [Lib.run_noEscape]
  simp only [Result.andThen]
  rw [Oper.upon_value]
  go_wp2_with fail
  rw [Lib.run_from_unsafe w ⟨b, 0, none⟩ Tryz.underlying90 Tryz.underlying45 hj hsh (by kernel_rfl)]
  simp only [Result.andThen]
  rw [Oper.upon_value]
  go_wp2_with fail
  go_end0
  exact ⟨rfl, rfl⟩
theorem check_any (B b : Nat) (bs : List Value) (w : World) (h : Lib.IsBuilderF 48 5 B b bs w) :
    Calls Tryz.prog 39 #[.pointer (some ⟨b, 0, none⟩)] w fun e w' => e = .returned (.tuple #[]) ∧ (Lib.BuilderAtF 48 5 B b (.pointer (some ⟨b, 0, none⟩)) bs w' ∧ Below B w w' ∧ Kept8 b w w') := by
  rcases h with h | h
  · refine (checkFresh_any b w h.cell0 h.shape h.frozen0).mono ?_
    rintro e w' ⟨rfl, rfl⟩
    exact ⟨rfl, h.used _, (Below.refl B w).setCell (p := ⟨b, 0, none⟩) h.1 _, (Lib.OthersKept.refl _ _ w).setCell ⟨b, 0, none⟩ rfl _⟩
  · refine (checkUsed_any b w h.cell0).mono ?_
    rintro e w' ⟨rfl, rfl⟩
    exact ⟨rfl, h, Below.refl B _, Lib.OthersKept.refl _ _ _⟩
set_option maxHeartbeats 2000000 in
set_option maxRecDepth 100000 in
theorem write_any (B b : Nat) (acc s : ByteArray) (w : World) (h : SB B b acc w) (hlen : acc.size + s.size ≤ 140737488355328) (hBw : B ≤ w.heap.size) :
    Calls Tryz.prog 22 #[.pointer (some ⟨b, 0, none⟩), .string s] w fun e w' => e = .returned (.tuple #[.int .i64 s.size, .nilIface]) ∧ SB B b (acc ++ s) w' ∧ Below B w w' ∧ Kept8 b w w' := by
  obtain ⟨i0, hi, hz0, hz1, hz2⟩ := info_parts (show (Tryz.prog.info? 5).map (fun i => (i.zero, i.size, i.bytes)) = some (some (.int .u8 0), 1, 1) by kernel_rfl)
  have HC := Lib.hid (check_any B b _ w h)
  have hbl : (Lib.byteCells acc.data.toList).length = acc.size := by rw [Lib.byteCells_length]; simp
  have HS : Hid (Lib.byteCells (acc ++ s).data.toList = Lib.byteCells acc.data.toList ++ Lib.strCells s) := by
    show _ = _; simp [Lib.byteCells, Lib.strCells]
  clear h
  go_enter Tryz.func22, Tryz.ntmps22
  go_wp2_with fail
  refine HC.out.mono ?_
  rintro e w1 ⟨rfl, h1, hb1, hk1⟩
  obtain ⟨hB, v, hbk, hown, hne⟩ := h1
  have c0 : w1.cell? ⟨b, 0, none⟩ = some (.pointer (some ⟨b, 0, none⟩)) := by rw [Lib.cell_of_heap hbk]; rfl
  have c1 : w1.cell? ⟨b, 1, none⟩ = some v := by rw [Lib.cell_of_heap hbk]; rfl
  have HOWN := Lib.hid hown
  have HBK := Lib.hid hbk
  have HB1 := Lib.hid hb1
  have HK1 := Lib.hid hk1
  have HNE := Lib.hid hne
  have HBL := Lib.hid hbl
  clear hown hbk hb1 hk1 hne hbl HC
  go_wp2_with (at_builtin; refine Lib.wpList_append_own_stringF _ rfl _ _ 46 9 rfl B 5 i0 Tryz.underlying46 Tryz.underlying9 hi hz0 hz1 hz2 _ _ _ rfl HOWN.out s rfl ?c3 ?c4 ?c5 ?_)
  case c3 => rw [HBL.out]; unfold maxLen; omega
  case c4 => rw [HBL.out]; omega
  case c5 => have := HB1.out.size; omega
  intro v' w2 hown' hgrow _
  have hlt : b < w1.heap.size := lt_of_block HBK.out
  have hb2 : w2.heap[b]? = some (.cells #[.pointer (some ⟨b, 0, none⟩), v] 48 (0, 0)) := by
    rw [hgrow.block b hlt (fun e => HNE.out e.symm)]
    exact HBK.out
  have d0 : w2.cell? ⟨b, 0, none⟩ = some (.pointer (some ⟨b, 0, none⟩)) := by rw [Lib.cell_of_heap hb2]; rfl
  have d1 : w2.cell? ⟨b, 1, none⟩ = some v := by rw [Lib.cell_of_heap hb2]; rfl
  have f1 : w2.frozen? ⟨b, 1, none⟩ = false := Lib.frozen_of_heap hb2 1
  obtain ⟨ao, n', cap, rfl⟩ : ∃ ao n' cap, v' = .slice ao n' cap := by
    rcases hown'.2 with ⟨hv, _⟩ | ⟨g, cap, cur, fz, hv, _⟩
    · exact ⟨_, _, _, hv⟩
    · exact ⟨_, _, _, hv⟩
  have HO2 := Lib.hid hown'
  have HG2 := Lib.hid hgrow
  have HB2 := Lib.hid hb2
  clear hown' hgrow hb2 c0 c1
  go_wp2_with fail
  go_ret2
  refine ⟨rfl, ?_, ?_, (HK1.out.grown HG2.out (Lib.ownsRowF_kind HOWN.out)).setCell ⟨b, 1, none⟩ rfl _⟩
  · show Lib.IsBuilderF _ _ _ _ _ _
    rw [HS.out]
    exact .inr (Lib.BuilderAtF.put (T := 48) (e := 5) hB HB2.out (bs' := Lib.byteCells acc.data.toList ++ Lib.strCells s) (by simpa [Lib.strCells_length] using HO2.out) (by decide))
  · exact (HB1.out.grown HG2.out (by have := HB1.out.size; omega) (fun k hk => (HOWN.out.lt k hk).1)).setCell (p := ⟨b, 1, none⟩) hB _
theorem string_any (B b : Nat) (acc : ByteArray) (w : World) (h : SB B b acc w) (hBw : B ≤ w.heap.size) :
    Calls Tryz.prog 23 #[.pointer (some ⟨b, 0, none⟩)] w fun e w' => e = .returned (.string acc) ∧ Below B w w' := by
  refine (Tryz.Builder_String_any_k B b acc.data.toList w h hBw).mono ?_
  rintro e w' ⟨rfl, _, hb, _⟩
  exact ⟨rfl, hb⟩
end Go.Proofs.YtdlcakmjihfgfaaGreatDoor
end
section
/-
  What of a text is marked, its skeleton, its lines: that the program's way (part by part) and the document's (byte by byte) are the same. Plain laws: no condition.
-/
namespace Go.Proofs.YtdlcakmjihfgfaaGreatDoor
namespace SpanPlain

/-- what stands between parts, and the parts, handed on one by one -/
def eachF {σ : Type} (text : ByteArray) (f : σ → ByteArray → ByteArray → σ) : List (Nat × Nat) → Nat → σ → σ
  | [], a, st => f st (text.extract a text.size) ByteArray.empty
  | s :: c, a, st => eachF text f c s.2 (f st (text.extract a s.1) (text.extract s.1 s.2))
abbrev mL : ByteArray := ⟨#[194, 171]⟩
abbrev mR : ByteArray := ⟨#[194, 187]⟩
def markF (acc a b : ByteArray) : ByteArray := if b = ByteArray.empty then acc ++ a else acc ++ a ++ (mL ++ b ++ mR)
/-- the document's byte by byte -/
def inM (n : Nat) (has : Nat → Bool) (x : Nat) : Bool := decide (x < n) && has x
def preM (n : Nat) (has : Nat → Bool) (x : Nat) : Bool := decide (0 < x) && inM n has (x - 1)
def markStep (text : ByteArray) (has : Nat → Bool) (acc : ByteArray) (i : Nat) : ByteArray :=
  let a1 := if inM text.size has i && !preM text.size has i then acc ++ mL else acc
  let a2 := a1 ++ text.extract i (i + 1)
  if inM text.size has i && !inM text.size has (i + 1) then a2 ++ mR else a2
theorem mark_none (text : ByteArray) (has : Nat → Bool) (a b : Nat) (h : a ≤ b) (hb : b ≤ text.size) (hn : ∀ x, a ≤ x → x < b → has x = false) (acc : ByteArray) :
    run (markStep text has) a b acc = acc ++ text.extract a b := by
  induction b, h using leInd with
  | base => rw [run_same, ext_same, ByteArray.append_empty]
  | succ b hab ih =>
    rw [run_succ _ _ _ hab, ih (by omega) (fun x h1 h2 => hn x h1 (by omega))]
    have e : inM text.size has b = false := by unfold inM; rw [hn b hab (by omega)]; simp
    simp only [markStep, e, Bool.false_and, Bool.false_eq_true, if_false]
    rw [ByteArray.append_assoc, ext_add _ _ _ _ hab (by omega)]
theorem mark_part (text : ByteArray) (has : Nat → Bool) (a e : Nat) (hae : a < e) (he : e ≤ text.size) (hin : ∀ x, a ≤ x → x < e → has x = true) (hpre : preM text.size has a = false) (hend : inM text.size has e = false) (acc : ByteArray) :
    run (markStep text has) a e acc = acc ++ (mL ++ text.extract a e ++ mR) := by
  have key : ∀ b, a + 1 ≤ b → b ≤ e → run (markStep text has) a b acc = acc ++ (mL ++ text.extract a b ++ (if b = e then mR else ByteArray.empty)) := by
    intro b hb
    induction b, hb using leInd with
    | base =>
      intro _
      rw [run_one]
      have h1 : inM text.size has a = true := by unfold inM; rw [hin a (Nat.le_refl _) hae]; simp; omega
      by_cases hl : a + 1 = e
      · have h2 : inM text.size has (a + 1) = false := by rw [hl]; exact hend
        simp only [markStep, h1, hpre, h2, Bool.not_false, Bool.and_true, if_true]
        rw [if_pos hl]
        simp only [ByteArray.append_assoc]
      · have h2 : inM text.size has (a + 1) = true := by unfold inM; rw [hin (a + 1) (by omega) (by omega)]; simp; omega
        simp only [markStep, h1, hpre, h2, Bool.not_false, Bool.not_true, Bool.and_true, Bool.and_false, if_true, Bool.false_eq_true, if_false]
        rw [if_neg hl]
        simp only [ByteArray.append_assoc, ByteArray.append_empty]
    | succ b hab ih =>
      intro hbe
      rw [run_succ _ _ _ (by omega), ih (by omega), if_neg (by omega)]
      have h1 : inM text.size has b = true := by unfold inM; rw [hin b (by omega) (by omega)]; simp; omega
      have h0 : preM text.size has b = true := by
        unfold preM inM; rw [hin (b - 1) (by omega) (by omega)]; simp; omega
      by_cases hl : b + 1 = e
      · have h2 : inM text.size has (b + 1) = false := by rw [hl]; exact hend
        simp only [markStep, h1, h0, h2, Bool.not_false, Bool.not_true, Bool.and_true, Bool.and_false, if_true, Bool.false_eq_true, if_false]
        rw [if_pos hl]
        simp only [ByteArray.append_assoc, ByteArray.append_empty]
        rw [← ByteArray.append_assoc (a := text.extract a b), ext_add _ _ _ _ (by omega) (by omega)]
      · have h2 : inM text.size has (b + 1) = true := by unfold inM; rw [hin (b + 1) (by omega) (by omega)]; simp; omega
        simp only [markStep, h1, h0, h2, Bool.not_true, Bool.and_false, Bool.false_eq_true, if_false]
        rw [if_neg hl]
        simp only [ByteArray.append_assoc, ByteArray.append_empty]
        rw [ext_add _ _ _ _ (by omega) (by omega)]
  rw [key e hae (Nat.le_refl _), if_pos rfl]
/-- where a part begins none is just before -/
theorem parts_pre {i n a : Nat} {s : Nat × Nat} {has : Nat → Bool} (p1 : ∀ x, i ≤ x → x < s.1 → has x = false) (his : i ≤ s.1) (hsn : s.1 < n) (hai : a ≤ i) (hg : ∀ x, a ≤ x → x < i → x < n → has x = false) (h0 : i = 0 ∨ a < i) : preM n has s.1 = false := by
  unfold preM inM
  by_cases hz : 0 < s.1
  · have : has (s.1 - 1) = false := by
      by_cases hi : i ≤ s.1 - 1
      · exact p1 _ hi (by omega)
      · exact hg _ (by omega) (by omega) (by omega)
    rw [this]; simp
  · simp [hz]
theorem mark_parts (text : ByteArray) (has : Nat → Bool) : ∀ (c : List (Nat × Nat)) (i a : Nat) (acc : ByteArray), InN i text.size c → Hass i text.size c has → a ≤ i → a ≤ text.size → (∀ x, a ≤ x → x < i → x < text.size → has x = false) → (i = 0 ∨ a < i) →
    run (markStep text has) a text.size acc = eachF text markF c a acc
  | [], i, a, acc, hi, h, hai, han, hg, h0 => by
    rw [mark_none text has a text.size han (Nat.le_refl _) (fun x h1 h2 => ?_)]
    · simp [eachF, markF]
    · by_cases hx : x < i
      · exact hg x h1 hx h2
      · rw [← Bool.not_eq_true, h x (by omega) h2]; simp
  | s :: c, i, a, acc, hi, h, hai, han, hg, h0 => by
    obtain ⟨p1, p2, p3⟩ := h.parts hi
    have ht := h.tail hi
    obtain ⟨h1, h2, h3, h4⟩ := hi
    rw [run_append _ a s.1 _ (by omega) (by omega), mark_none text has a s.1 (by omega) (by omega) (fun x k1 k2 => ?_), run_append _ s.1 s.2 _ (by omega) h3,
      mark_part text has s.1 s.2 h2 h3 p2 (parts_pre (n := text.size) p1 h1 (by omega) hai hg h0) (by unfold inM; by_cases c2 : s.2 < text.size <;> simp [c2, p3]) (acc ++ text.extract a s.1)]
    · rw [mark_parts text has c (s.2 + 1) s.2 _ h4 ht (by omega) h3 (fun x k1 k2 k3 => by
        have : x = s.2 := by omega
        subst this; exact p3 k3) (.inr (by omega))]
      simp only [eachF]
      congr 1
      unfold markF
      rw [if_neg (ext_ne _ _ _ h2 h3)]
    · by_cases hx : x < i
      · exact hg x k1 hx (by omega)
      · exact p1 x (by omega) k2
/-- a blank -/
def blankB (c : UInt8) : Bool := c == 32 || c == 9 || c == 10 || c == 13
def fullB (b : ByteArray) : Bool := b.data.toList.any (fun c => !blankB c)
abbrev dots : ByteArray := ⟨#[46, 46]⟩
def skelF (acc a b : ByteArray) : ByteArray := (if fullB a then acc ++ dots else acc) ++ b
def byteAt (text : ByteArray) (i : Nat) : UInt8 := text.data.toList.getD i 0
def skelStep (text : ByteArray) (has : Nat → Bool) (st : ByteArray × Bool) (i : Nat) : ByteArray × Bool :=
  if inM text.size has i then ((if st.2 then st.1 ++ dots else st.1) ++ text.extract i (i + 1), false)
  else (st.1, st.2 || !blankB (byteAt text i))
theorem byteAt_get (text : ByteArray) (i : Nat) (h : i < text.size) : byteAt text i = text[i] := by
  unfold byteAt
  rw [List.getD_eq_getElem?_getD, List.getElem?_eq_getElem (by simpa using h)]; rfl
theorem ext_one_data (text : ByteArray) (i : Nat) (h : i < text.size) : (text.extract i (i + 1)).data.toList = [byteAt text i] := by
  rw [Lib.extract_data, byteAt_get _ _ h]
  have hd : text.data.toList.drop i = text[i] :: text.data.toList.drop (i + 1) := List.drop_eq_getElem_cons (by simpa using h)
  rw [hd]
  have : i + 1 - i = 1 := by omega
  rw [this]; rfl
theorem full_add (text : ByteArray) (a b : Nat) (h1 : a ≤ b) (h2 : b < text.size) : fullB (text.extract a (b + 1)) = (fullB (text.extract a b) || !blankB (byteAt text b)) := by
  rw [← ext_add text a b (b + 1) h1 (by omega)]
  unfold fullB
  rw [ByteArray.data_append, Array.toList_append, List.any_append, ext_one_data _ _ h2]
  simp
theorem full_none (text : ByteArray) (a : Nat) : fullB (text.extract a a) = false := by rw [ext_same]; rfl
theorem skel_none (text : ByteArray) (has : Nat → Bool) (a b : Nat) (h : a ≤ b) (hb : b ≤ text.size) (hn : ∀ x, a ≤ x → x < b → has x = false) (acc : ByteArray) :
    run (skelStep text has) a b (acc, false) = (acc, fullB (text.extract a b)) := by
  induction b, h using leInd with
  | base => rw [run_same, full_none]
  | succ b hab ih =>
    rw [run_succ _ _ _ hab, ih (by omega) (fun x h1 h2 => hn x h1 (by omega)), full_add _ _ _ hab (by omega)]
    have e : inM text.size has b = false := by unfold inM; rw [hn b hab (by omega)]; simp
    simp only [skelStep, e, Bool.false_eq_true, if_false]
theorem skel_part (text : ByteArray) (has : Nat → Bool) (a e : Nat) (hae : a < e) (he : e ≤ text.size) (hin : ∀ x, a ≤ x → x < e → has x = true) (acc : ByteArray) (g : Bool) :
    run (skelStep text has) a e (acc, g) = ((if g then acc ++ dots else acc) ++ text.extract a e, false) := by
  have key : ∀ b, a + 1 ≤ b → b ≤ e → run (skelStep text has) a b (acc, g) = ((if g then acc ++ dots else acc) ++ text.extract a b, false) := by
    intro b hb
    induction b, hb using leInd with
    | base =>
      intro _
      rw [run_one]
      have h1 : inM text.size has a = true := by unfold inM; rw [hin a (Nat.le_refl _) hae]; simp; omega
      simp only [skelStep, h1, if_true]
    | succ b hab ih =>
      intro hbe
      rw [run_succ _ _ _ (by omega), ih (by omega)]
      have h1 : inM text.size has b = true := by unfold inM; rw [hin b (by omega) (by omega)]; simp; omega
      simp only [skelStep, h1, if_true, Bool.false_eq_true, if_false]
      rw [ByteArray.append_assoc, ext_add _ _ _ _ (by omega) (by omega)]
  exact key e hae (Nat.le_refl _)
def skelEnd (st : ByteArray × Bool) : ByteArray := if st.2 then st.1 ++ dots else st.1
theorem skel_parts (text : ByteArray) (has : Nat → Bool) : ∀ (c : List (Nat × Nat)) (i a : Nat) (acc : ByteArray), InN i text.size c → Hass i text.size c has → a ≤ i → a ≤ text.size → (∀ x, a ≤ x → x < i → x < text.size → has x = false) →
    skelEnd (run (skelStep text has) a text.size (acc, false)) = eachF text skelF c a acc
  | [], i, a, acc, hi, h, hai, han, hg => by
    rw [skel_none text has a text.size han (Nat.le_refl _) (fun x h1 h2 => ?_)]
    · simp [eachF, skelF, skelEnd]
    · by_cases hx : x < i
      · exact hg x h1 hx h2
      · rw [← Bool.not_eq_true, h x (by omega) h2]; simp
  | s :: c, i, a, acc, hi, h, hai, han, hg => by
    obtain ⟨p1, p2, p3⟩ := h.parts hi
    have ht := h.tail hi
    obtain ⟨h1, h2, h3, h4⟩ := hi
    rw [run_append _ a s.1 _ (by omega) (by omega), skel_none text has a s.1 (by omega) (by omega) (fun x k1 k2 => ?_), run_append _ s.1 s.2 _ (by omega) h3,
      skel_part text has s.1 s.2 h2 h3 p2]
    · rw [skel_parts text has c (s.2 + 1) s.2 _ h4 ht (by omega) h3 (fun x k1 k2 k3 => by
        have : x = s.2 := by omega
        subst this; exact p3 k3)]
      simp only [eachF]
      rfl
    · by_cases hx : x < i
      · exact hg x k1 hx (by omega)
      · exact p1 x (by omega) k2
end SpanPlain
end Go.Proofs.YtdlcakmjihfgfaaGreatDoor
end
