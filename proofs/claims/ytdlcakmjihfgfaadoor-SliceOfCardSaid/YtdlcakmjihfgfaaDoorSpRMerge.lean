/-
  The document's Merge of spans. Conditions: the spans lie in memory as told; there are few.
-/
import Derived.Test.YtdlcakmjihfgfaaDoorSpMerge
import Derived.Test.YtdlcakmjihfgfaaDoorBlk
import Derived.Deep.RegionHeld3
import Derived.Deep.DeepCutAuto
import Derived.Deep.CutBlock
namespace Go.Proofs.YtdlcakmjihfgfaaDoor
open Go.RowKit Go.Shelf SpanPlain

def box2 (x y : Int) : Obj := .cells #[.int .i64 x, .int .i64 y] 41
theorem box2_cells {w : World} {b : Nat} {x y : Int} (h : w.heap[b]? = some (box2 x y)) : w.cell? ⟨b, 0, none⟩ = some (.int .i64 x) ∧ w.cell? ⟨b, 1, none⟩ = some (.int .i64 y) ∧ w.frozen? ⟨b, 0, none⟩ = false ∧ w.frozen? ⟨b, 1, none⟩ = false := by
  unfold box2 at h
  exact ⟨by rw [cell_of_row _ _ _ _ _ (0, 0) h]; rfl, by rw [cell_of_row _ _ _ _ _ (0, 0) h]; rfl, by simp [World.frozen?, h], by simp [World.frozen?, h]⟩
theorem box2_set {w : World} {b : Nat} {x y x' y' : Int} (h : w.heap[b]? = some (box2 x y)) : ((w.setCell ⟨b, 0, none⟩ (.int .i64 x')).setCell ⟨b, 1, none⟩ (.int .i64 y')).heap[b]? = some (box2 x' y') := by
  unfold box2 at *
  exact sp_set_block (sp_set_block h)
theorem box2_fr {S : Nat → Prop} {w w' : World} {b : Nat} {x y : Int} (h : w.heap[b]? = some (box2 x y)) (hf : Fr S w w') (hS : ¬ S b) : w'.heap[b]? = some (box2 x y) := by
  have hlt : b < w.heap.size := by
    rcases Nat.lt_or_ge b w.heap.size with h' | h'
    · exact h'
    · simp [Array.getElem?_eq_none h'] at h
  exact (hf.block b hlt hS).trans h
theorem rins_at (s : Sp) : ∀ (r : List Sp) (a : Nat), (∀ u ∈ r.take a, u.1 < s.1) → (∀ u, r[a]? = some u → ¬ u.1 < s.1) → rins s r = r.take a ++ [s] ++ r.drop a := by
  have key : ∀ (r : List Sp) (a : Nat), (∀ u ∈ r.take a, u.1 < s.1) → (∀ u, r[a]? = some u → ¬ u.1 < s.1) → r.takeWhile (fun t => decide (t.1 < s.1)) = r.take a ∧ r.dropWhile (fun t => decide (t.1 < s.1)) = r.drop a := by
    intro r
    induction r with
    | nil => intro a _ _; simp
    | cons t r ih =>
      intro a h1 h2
      cases a with
      | zero =>
        have := h2 t rfl
        simp [this]
      | succ a =>
        have h3 := h1 t (by simp)
        obtain ⟨i1, i2⟩ := ih a (fun u hu => h1 u (by simp; exact .inr hu)) (fun u hu => h2 u (by simpa using hu))
        simp [h3, i1, i2]
  intro r a h1 h2
  obtain ⟨k1, k2⟩ := key r a h1 h2
  unfold rins
  rw [k1, k2]
theorem take_lt {r : List Sp} {a : Nat} {u : Sp} {p : Sp → Prop} (h : ∀ u ∈ r.take a, p u) (hu : r[a]? = some u) (hp : p u) : ∀ u ∈ r.take (a + 1), p u := by
  intro v hv
  rw [List.take_add_one, hu] at hv
  simp at hv
  rcases hv with h' | rfl
  · exact h v h'
  · exact hp
/-- append of spans that lie somewhere to a row of the call's own, where the order is drawn -/
theorem step_spans {ops : Array Oper} {o : Oper} {a : Act} {K : Act → World → Prop} {Q : Exit → Act → World → Prop} {E : Prop} (W : World) (hg : o.guard = none) (s x : Operand)
    (hop : o.op = .call { callee := .builtin .append, args := #[s, x], argTypes := #[22, 22] })
    (v : Value) (n : Nat) (xs : List Sp) (hn : n = xs.length) (hs : a.eval s = v) (hown : W.ownsRow 0 41 2 v n (flat xs)) (oa : Option Addr) (ys : List Sp) (m c : Nat) (hm : m = ys.length) (hx : a.eval x = .slice oa m c) (hat : SpAt (fun _ => True) W oa ys) (N : Nat) (hN : n + m = N) (hb : N ≤ 1000000)
    (hK : ∀ o' c' w', w'.ownsRow 0 41 2 (.slice o' N c') N (flat (xs ++ ys)) → Fr (fun k => v.ownBlock = some k) W w' → (∀ g, (Value.slice o' N c').ownBlock = some g → v.ownBlock = some g ∨ W.heap.size ≤ g) → K (a.put o.dst (.slice o' N c')) w') :
    if Region.wanted o (yielded ops a.tmps) = true then Oper.wp Tryd.prog o a W K Q else E := by
  subst hN
  refine step_append_row (P := Tryd.prog) W hg s x 22 hop 41 _ 2 16 elemSp v n (flat xs) hs hown oa m c (flat ys) hx (by rw [hm]; exact flat_length ys) (flat_news hat) (flat_one ys) (by unfold maxLen; omega) (by omega) ?_
  intro o' c' w' h1 h2 h3 _
  refine hK o' c' w' (by rw [flat_app]; exact h1) h2 (fun g hg => ?_)
  rcases h3 with h | h
  · rw [h] at hg; exact .inl hg
  · rw [h] at hg; cases hg; exact .inr (Nat.le_refl _)
theorem SpRow.cap {w : World} {B n c : Nat} {o : Option Addr} {l : List Sp} (h : SpRow w B (.slice o n c) l) : l.length ≤ c ∧ (0 < c → ∃ g, o = Option.some ⟨g, 0, none⟩) := by
  rcases h.own.2 with ⟨h1, h2⟩ | ⟨g, cap, cur, he, _, _, hc, _⟩
  · injection h1 with e1 e2 e3
    exact ⟨by omega, fun h => by omega⟩
  · injection he with e1 e2 e3
    exact ⟨by omega, fun _ => ⟨g, e1⟩⟩
theorem sp_sliced {R : Nat → Prop} {w : World} {ro : Option Addr} {rest : List Sp} {a rc : Nat} (h : SpAt R w ro rest) (hc : rest.length ≤ rc) : SpAt R w (if rc = a then ro else Option.map (fun x => x.add (a * 2)) ro) (rest.drop a) := by
  by_cases hca : rc = a
  · rw [if_pos hca, List.drop_of_length_le (by omega)]
    exact SpAt.nil _ _ _
  · rw [if_neg hca]
    intro j t ht
    have ht' := ht
    rw [List.getElem?_drop] at ht'
    obtain ⟨b, off, rfl, _⟩ := h _ t ht'
    have := h.tail (n := a) j t ht
    simpa [Addr.add_lit] using this
theorem sp_empty {w : World} {b : Nat} (h : w.heap[b]? = some (.cells #[] 41 (0, 0))) : w.ownsRow 0 41 2 (.slice (some ⟨b, 0, none⟩) 0 0) 0 (flat []) :=
  ⟨rfl, .inr ⟨b, 0, #[], rfl, Nat.zero_le _, h, Nat.le_refl _, Nat.zero_le _, rfl, rfl⟩⟩
theorem sp_one {w : World} {b : Nat} {x y : Int} (h : w.heap[b]? = some (.cells #[.int .i64 x, .int .i64 y] 41 (0, 0))) : SpAt (fun _ => True) w (some ⟨b, 0, none⟩) [(x, y)] := by
  intro j t ht
  cases j with
  | zero =>
    simp at ht
    subst ht
    exact ⟨b, 0, rfl, trivial, by rw [cell_of_row _ _ _ _ _ (0, 0) h]; rfl, by rw [cell_of_row _ _ _ _ _ (0, 0) h]; rfl⟩
  | succ j => simp at ht
set_option maxRecDepth 100000 in
set_option maxHeartbeats 8000000 in
theorem refMerge_any (l : List Sp) (o : Option Addr) (cap : Nat) (w : World) (R : Nat → Prop) (hs : SpAt R w o l) (hz : l.length ≤ 100000) :
    Calls Tryd.prog 36 #[.slice o l.length cap] w (SpPost w (rmerge l)) := by
  have HS := Lib.hid hs
  obtain ⟨res, hres⟩ : ∃ res, rmerge l = res := ⟨_, rfl⟩
  have HRES : Hid (l.foldl rstep [] = res) := hres
  rw [hres]
  clear hs hres
  go_enter Tryd.func36, Tryd.ntmps36
  go_wp2_with fail
  go_loopw [3, 4] (fun v t wr => ∃ (i : Nat) (out : List Sp), t = .int .i64 i ∧ i ≤ l.length ∧ SpRow wr w.heap.size v out ∧ (l.drop i).foldl rstep out = res ∧ out.length ≤ i ∧ Quiet0 w wr) (fun _ t _ => l.length - (intOf t).toNat)
  case atStart => exact ⟨0, [], rfl, Nat.zero_le _, SpRow.nil _ _, HRES.out, Nat.zero_le _, Quiet0.refl _⟩
  case round =>
    obtain ⟨i, out, rfl, hi, hrow, hr, hoi, hq⟩ := hrel
    have HROW := Lib.hid hrow
    have HR := Lib.hid hr
    have HQ := Lib.hid hq
    obtain ⟨vo, vc, rfl, hmx⟩ := hrow.form
    by_cases hlt : i < l.length
    · have hlt' : (i : Int) < l.length := by omega
      obtain ⟨s, hsi⟩ : ∃ s, l[i]? = some s := ⟨_, List.getElem?_eq_getElem hlt⟩
      obtain ⟨x, y⟩ := s
      obtain ⟨b, off, rfl, _, a0, a1⟩ := HS.out.stay hq i _ hsi
      have HDR := Lib.hid (sp_drop hsi)
      obtain ⟨B5, hB5⟩ : ∃ B5, B5 = wr.heap.size := ⟨_, rfl⟩
      obtain ⟨W0, hW0⟩ : ∃ W0, W0 = wr.alloc (box2 x y) := ⟨_, rfl⟩
      have HQ0 : Hid (Quiet0 wr W0) := by rw [hW0]; exact Quiet0.alloc _ _
      have HB5 : Hid (W0.heap[B5]? = some (box2 x y)) := by rw [hW0, hB5]; exact heap_alloc_new wr _
      have HZ0 : Hid (W0.heap.size = B5 + 1) := by show _ = _; rw [hW0, hB5]; simp
      obtain ⟨b0, b1, bz0, bz1⟩ := box2_cells HB5.out
      have HBE : Hid (B5 = wr.heap.size) := hB5
      have HOA : Hid (∀ W, Fr (fun k => k = B5) W0 W → SpAt (fun _ => True) W vo out) := by
        intro W hf
        exact (HROW.out.slc.lt.stay HQ0.out).fr hf (fun k _ h => ⟨trivial, fun e => by have := h.2; have := HBE.out; omega⟩)
      have HQF : Hid (∀ W, Fr (fun k => k = B5) W0 W → Quiet0 w W) := by
        intro W hf
        exact Fr.trans' (HQ.out.trans HQ0.out) hf (fun k hk e => by have := HBE.out; have := HQ.out.size; omega)
      clear hsi hrow hr hq
      by_cases hxy : y ≤ x
      · have HN : Hid (rstep out (x, y) = out) := by show _ = _; unfold rstep; rw [if_pos (by exact hxy)]
        go_upto_region 6 with fail
        change Code.wp _ _ _ _ (wr.alloc (box2 x y))
        rw [← hW0, ← hB5]
        clear hW0 hB5 a0 a1
        go_wp2_with fail
        go_roundw
        case rel => exact ⟨i + 1, out, by go_num, by omega, HROW.out.stay HQ0.out, by rw [← HR.out, HDR.out, List.foldl_cons, HN.out], by omega, HQ.out.trans HQ0.out⟩
        case measure => simp [intOf]; omega
      · have HN : Hid (rstep out (x, y) = rins (out.foldl absorb ((x, y), [])).1 (out.foldl absorb ((x, y), [])).2) := by show _ = _; unfold rstep; rw [if_neg (by simpa using hxy)]
        obtain ⟨fin, hfin⟩ : ∃ fin, out.foldl absorb ((x, y), []) = fin := ⟨_, rfl⟩
        have HFIN := Lib.hid hfin
        rw [hfin] at HN
        clear hfin
        have hyx : ¬ y ≤ x := hxy
        go_upto_region 6 with fail
        change Code.wp _ _ _ _ (wr.alloc (box2 x y))
        rw [← hW0, ← hB5]
        clear hW0 hB5 a0 a1
        go_wp2_with fail
        generalize hn : out.length = n at *
        have HNL := Lib.hid hn
        clear hn
        go_loopw [6, 7] (fun v t w2 => ∃ (j : Nat) (px py : Int) (rest : List Sp), t = .int .i64 j ∧ j ≤ n ∧ SpRow w2 (B5 + 1) v rest ∧ w2.heap[B5]? = some (box2 px py) ∧ (out.drop j).foldl absorb ((px, py), rest) = fin ∧ rest.length ≤ j ∧ Fr (fun k => k = B5) W0 w2) (fun _ t _ => n - (intOf t).toNat)
        case atStart => exact ⟨0, x, y, [], rfl, Nat.zero_le _, SpRow.nil _ _, HB5.out, HFIN.out, Nat.zero_le _, Fr.refl _ _⟩
        case round =>
          obtain ⟨j, px, py, rest, rfl, hj, hrw, hbx, hra, hrj, hfr⟩ := hrel
          have HRW := Lib.hid hrw
          have HBX := Lib.hid hbx
          have HRA := Lib.hid hra
          have HFR := Lib.hid hfr
          obtain ⟨ro, rc, rfl, hmr⟩ := hrw.form
          obtain ⟨c0, c1, z0, z1⟩ := box2_cells hbx
          have hsz := hfr.size
          clear hrw hbx hra hfr b0 b1 bz0 bz1
          by_cases hlt2 : j < n
          · have hlt2' : (j : Int) < n := by omega
            obtain ⟨t, htj⟩ : ∃ t, out[j]? = some t := ⟨_, List.getElem?_eq_getElem (by have := HNL.out; omega)⟩
            obtain ⟨tx, ty⟩ := t
            obtain ⟨gb, offb, rfl, _, d0, d1⟩ := HOA.out wr HFR.out j _ htj
            have HD2 := Lib.hid (sp_drop htj)
            have hb5 : B5 < wr.heap.size := by have := HZ0.out; omega
            clear htj
            by_cases k1 : tx ≤ py
            · by_cases k2 : px ≤ ty
              · have HAB : Hid (absorb ((px, py), rest) (tx, ty) = ((min px tx, max py ty), rest)) := by show _ = _; unfold absorb; simp only; rw [if_pos ⟨k1, k2⟩]
                go_wp2_with fail
                go_roundw
                case rel =>
                  have hf2 : Fr (fun k => k = B5) wr _ := (Fr.setCell (fun k => k = B5) wr ⟨B5, 0, none⟩ (.int .i64 (min px tx)) rfl).trans (Fr.setCell (fun k => k = B5) _ ⟨B5, 1, none⟩ (.int .i64 (max py ty)) rfl)
                  have hq2 := Quiet0.alloc ((wr.setCell ⟨B5, 0, none⟩ (.int .i64 (min px tx))).setCell ⟨B5, 1, none⟩ (.int .i64 (max py ty))) (box2 tx ty)
                  have hb2 := box2_fr (box2_set (x' := min px tx) (y' := max py ty) HBX.out) hq2 (fun h => h)
                  exact ⟨j + 1, min px tx, max py ty, rest, by go_num, by omega, (HRW.out.fr hf2 (fun k hk e => by have := HRW.out.low k hk; omega)).stay hq2, hb2, by rw [← HRA.out, HD2.out, List.foldl_cons, HAB.out], by omega, (HFR.out.trans hf2).trans (sp_fr hq2)⟩
                case measure => simp [intOf]; omega
              · have HAB : Hid (absorb ((px, py), rest) (tx, ty) = ((px, py), rest ++ [(tx, ty)])) := by show _ = _; unfold absorb; simp only; rw [if_neg (fun h => k2 h.2)]
                go_wp2_with (at_builtin; refine wpList_append_H (wr.alloc (.cells #[.int .i64 tx, .int .i64 ty] 41)) (wr.heap.size + 1) (by simp) rfl (.tmp 58) (.tmp 60) 22 rfl 41 _ 2 16 elemSp (.slice ro rest.length rc) rest.length (flat rest) rfl (HRW.out.stay (Quiet0.alloc _ _)).own #[.int .i64 tx, .int .i64 ty] rfl rfl (by simp [Value.oneCell']) (by unfold maxLen; omega) (by omega) ?_; intro g c' w4 ho hf hg)
                have hq2 := Quiet0.alloc wr (box2 tx ty)
                have HR2 : Hid (SpRow w4 (B5 + 1) (.slice (some ⟨g, 0, none⟩) (rest.length + 1) c') (rest ++ [(tx, ty)])) := by
                  show SpRow _ _ _ _
                  exact SpRow.snoc (x := tx) (y := ty) (HRW.out.stay hq2) ho hg (by have := hq2.size; have := HZ0.out; omega)
                have hlow := HRW.out.low
                have hne : ¬ (Value.slice ro rest.length rc).ownBlock = some B5 := fun h => by have := hlow B5 h; omega
                have HB2 := Lib.hid (box2_fr (box2_fr HBX.out hq2 (fun h => h)) hf hne)
                have HF2 : Hid (Fr (fun k => k = B5) W0 w4) := Lib.hid (Fr.trans' (HFR.out.trans (sp_fr hq2)) hf (fun kk hkk h => by have := hlow kk h; have := HZ0.out; omega))
                clear ho hf hg hq2 hlow hne
                go_wp2_with fail
                go_roundw
                case rel => exact ⟨j + 1, px, py, rest ++ [(tx, ty)], by go_num, by omega, HR2.out, HB2.out, by rw [← HRA.out, HD2.out, List.foldl_cons, HAB.out], by rw [List.length_append, List.length_singleton]; omega, HF2.out⟩
                case measure => simp [intOf]; omega
            · have HAB : Hid (absorb ((px, py), rest) (tx, ty) = ((px, py), rest ++ [(tx, ty)])) := by show _ = _; unfold absorb; simp only; rw [if_neg (fun h => k1 h.1)]
              go_wp2_with (at_builtin; refine wpList_append_H (wr.alloc (.cells #[.int .i64 tx, .int .i64 ty] 41)) (wr.heap.size + 1) (by simp) rfl (.tmp 58) (.tmp 60) 22 rfl 41 _ 2 16 elemSp (.slice ro rest.length rc) rest.length (flat rest) rfl (HRW.out.stay (Quiet0.alloc _ _)).own #[.int .i64 tx, .int .i64 ty] rfl rfl (by simp [Value.oneCell']) (by unfold maxLen; omega) (by omega) ?_; intro g c' w4 ho hf hg)
              have hq2 := Quiet0.alloc wr (box2 tx ty)
              have HR2 : Hid (SpRow w4 (B5 + 1) (.slice (some ⟨g, 0, none⟩) (rest.length + 1) c') (rest ++ [(tx, ty)])) := by
                show SpRow _ _ _ _
                exact SpRow.snoc (x := tx) (y := ty) (HRW.out.stay hq2) ho hg (by have := hq2.size; have := HZ0.out; omega)
              have hlow := HRW.out.low
              have hne : ¬ (Value.slice ro rest.length rc).ownBlock = some B5 := fun h => by have := hlow B5 h; omega
              have HB2 := Lib.hid (box2_fr (box2_fr HBX.out hq2 (fun h => h)) hf hne)
              have HF2 : Hid (Fr (fun k => k = B5) W0 w4) := Lib.hid (Fr.trans' (HFR.out.trans (sp_fr hq2)) hf (fun kk hkk h => by have := hlow kk h; have := HZ0.out; omega))
              clear ho hf hg hq2 hlow hne
              go_wp2_with fail
              go_roundw
              case rel => exact ⟨j + 1, px, py, rest ++ [(tx, ty)], by go_num, by omega, HR2.out, HB2.out, by rw [← HRA.out, HD2.out, List.foldl_cons, HAB.out], by rw [List.length_append, List.length_singleton]; omega, HF2.out⟩
              case measure => simp [intOf]; omega
          · have hlt2' : ¬ (j : Int) < n := by omega
            have HE : Hid (((px, py), rest) = fin) := by have := HRA.out; rw [List.drop_of_length_le (by have := HNL.out; omega)] at this; exact this
            go_upto_block 4 with (fail)
            go_cut [9] (fun t wx => ∃ a : Nat, t = .int .i64 a ∧ a ≤ rest.length ∧ rins (px, py) rest = rest.take a ++ [(px, py)] ++ rest.drop a ∧ Quiet0 wr wx)
            case first =>
              go_wp2_with fail
              go_loopw [9] (fun t wx => ∃ a : Nat, t = .int .i64 a ∧ a ≤ rest.length ∧ (∀ u ∈ rest.take a, u.1 < px) ∧ Quiet0 wr wx) (fun t _ => rest.length - (intOf t).toNat)
              case atStart => exact ⟨0, rfl, Nat.zero_le _, (fun u hu => by simp at hu), Quiet0.refl _⟩
              case round =>
                obtain ⟨a, rfl, ha, hlo, hq4⟩ := hrel
                have HLO := Lib.hid hlo
                have HQ4 := Lib.hid hq4
                obtain ⟨c0, c1, _, _⟩ := box2_cells (box2_fr HBX.out HQ4.out (fun h => h))
                clear hlo hq4
                generalize hrn : rest.length = rn at *
                have HRN := Lib.hid hrn
                clear hrn
                by_cases hlt3 : a < rn
                · have hd0 : decide (a < rn) = true := by simpa using hlt3
                  obtain ⟨u, hua⟩ : ∃ u, rest[a]? = some u := ⟨_, List.getElem?_eq_getElem (by have := HRN.out; omega)⟩
                  obtain ⟨ux, uy⟩ := u
                  obtain ⟨gb, offb, rfl, _, d0, d1⟩ := (HRW.out.stay HQ4.out).slc a _ hua
                  have HUA := Lib.hid hua
                  have hlt3' : (a : Int) < rn := by omega
                  clear hua
                  by_cases k1 : ux < px
                  · go_wp2_with fail
                    go_quiet (fail)
                    go_wp2_with fail
                    go_roundw
                    case rel => exact ⟨a + 1, by go_num, by omega, take_lt HLO.out HUA.out k1, HQ4.out.trans (Quiet0.drewN _ _)⟩
                    case measure => simp [intOf]; omega
                  · go_wp2_with fail
                    go_quiet (fail)
                    go_wp2_with fail
                    go_meet
                    exact ⟨a, rfl, by omega, rins_at _ _ _ HLO.out (fun u hu => by rw [HUA.out] at hu; cases hu; show ¬ ux < px; omega), HQ4.out.trans (Quiet0.drewN _ _)⟩
                · have hd0 : decide (a < rn) = false := by simpa using hlt3
                  go_wp2_with fail
                  go_quiet (fail)
                  go_wp2_with fail
                  go_meet
                  exact ⟨a, rfl, by omega, rins_at _ _ _ HLO.out (fun u hu => by rw [List.getElem?_eq_none (by have := HRN.out; omega)] at hu; cases hu), HQ4.out.trans (Quiet0.drewN _ _)⟩
            case rest =>
              obtain ⟨a, rfl, ha, hri, hq4⟩ := hcut
              have HQ4 := Lib.hid hq4
              have HRI := Lib.hid hri
              have HRW4 := Lib.hid (HRW.out.stay hq4)
              have HC5 : Hid (∀ W, Quiet0 wc W → W.cell? ⟨B5, 0, none⟩ = some (.int .i64 px) ∧ W.cell? ⟨B5, 1, none⟩ = some (.int .i64 py)) := by
                intro W hq
                obtain ⟨k0, k1, _, _⟩ := box2_cells (box2_fr (box2_fr HBX.out hq4 (fun h => h)) hq (fun h => h))
                exact ⟨k0, k1⟩
              obtain ⟨h50, h51⟩ := HC5.out wc (Quiet0.refl _)
              have HTK : Hid (SpAt (fun _ => True) wc ro (rest.take a)) := Lib.hid ((HRW4.out.slc.mono (fun _ _ _ => trivial)).take a)
              have HTL : Hid (a = (rest.take a).length) := by show _ = _; rw [List.length_take]; omega
              have HTL1 : Hid (a + 1 = ([] ++ rest.take a ++ [(px, py)]).length) := by show _ = _; rw [List.length_append, List.nil_append, List.length_take]; simp; omega
              obtain ⟨N, hN⟩ : ∃ N, N = rest.length + 1 := ⟨_, rfl⟩
              have HNB : Hid (N ≤ 1000000) := by show _ ≤ _; omega
              have HNN0 : Hid (a + 1 + (rest.length - a) = N) := by show _ = _; omega
              have HNN := HNN0
              have hcap : rest.length ≤ rc := HRW4.out.cap.1
              have hwc : w.heap.size ≤ wc.heap.size := Nat.le_trans (HQF.out _ HFR.out).size HQ4.out.size
              have hai : (0 : Int) ≤ (a : Int) := by omega
              have har : (a : Int) ≤ (rc : Int) := by omega
              have har2 : (a : Int) ≤ (rest.length : Int) := by omega
              have HNE := Lib.hid hN
              clear hq4 hri hN
              have HDL : Hid (rest.length - a = (rest.drop a).length) := by show _ = _; rw [List.length_drop]
              have HDK : Hid (SpAt (fun _ => True) wc (if rc = a then ro else Option.map (fun x => x.add (a * 2)) ro) (rest.drop a)) := Lib.hid (sp_sliced (HRW4.out.slc.mono (T := fun _ => True) (fun _ _ _ => trivial)) hcap)
              go_wp2_with fail
              have hqc := Quiet0.refl wc
              go_region_held3 (fun w' => w'.cell? ⟨B5, 0, none⟩ = some (.int .i64 px) ∧ w'.cell? ⟨B5, 1, none⟩ = some (.int .i64 py))
                (((refine HC5.out _ ?_); (repeat (first | with_reducible exact hqc | with_reducible exact Quiet0.refl _ | with_reducible refine Quiet0.trans ?_ (Quiet0.alloc _ _) | with_reducible refine Quiet0.trans ?_ (Quiet0.drew _) | fail))))
                (first
                  | ((refine step_spans _ rfl (.tmp 78) (.tmp 81) rfl (.slice (some ⟨wc.heap.size, 0, none⟩) 0 0) 0 [] rfl rfl ?hown ro (rest.take a) a rc HTL.out rfl ?hat a (Nat.zero_add a) (by omega) ?_); (case hown => ((refine sp_empty ?_); (repeat (first | ((with_reducible refine blk_new _ _ _ _ ?hbe); (case hbe => (simp; done))) | with_reducible refine blk_after (Quiet0.alloc _ _) ?_ | with_reducible refine blk_drew ?_ | ((with_reducible refine blk_fr hf3 ?hbo ?_); (case hbo => (simp [Value.ownBlock]; done))) | ((with_reducible refine blk_fr hf3 ?hbo ?_); (case hbo => (simp [Value.ownBlock]; omega))) | fail)))); (case hat => ((refine HTK.out.stay ?_); (repeat (first | with_reducible exact hqc | with_reducible exact Quiet0.refl _ | with_reducible refine Quiet0.trans ?_ (Quiet0.alloc _ _) | with_reducible refine Quiet0.trans ?_ (Quiet0.drew _) | fail)))); intro o3 c3 w3 ho3 hf3 hb3; (refine with_fr2 (w0 := wc) ?hch hf3 ?hlo ?_); (case hch => (repeat (first | with_reducible exact hqc | with_reducible exact Quiet0.refl _ | with_reducible refine Quiet0.trans ?_ (Quiet0.alloc _ _) | with_reducible refine Quiet0.trans ?_ (Quiet0.drew _) | fail))); (case hlo => (intro k hk; simp [Value.ownBlock] at hk; omega)); intro hqc hw3)
                  | ((refine step_spans _ rfl (.tmp 78) (.tmp 81) rfl (.slice (some ⟨wc.heap.size + 1, 0, none⟩) 0 0) 0 [] rfl rfl ?hown ro (rest.take a) a rc HTL.out rfl ?hat a (Nat.zero_add a) (by omega) ?_); (case hown => ((refine sp_empty ?_); (repeat (first | ((with_reducible refine blk_new _ _ _ _ ?hbe); (case hbe => (simp; done))) | with_reducible refine blk_after (Quiet0.alloc _ _) ?_ | with_reducible refine blk_drew ?_ | ((with_reducible refine blk_fr hf3 ?hbo ?_); (case hbo => (simp [Value.ownBlock]; done))) | ((with_reducible refine blk_fr hf3 ?hbo ?_); (case hbo => (simp [Value.ownBlock]; omega))) | fail)))); (case hat => ((refine HTK.out.stay ?_); (repeat (first | with_reducible exact hqc | with_reducible exact Quiet0.refl _ | with_reducible refine Quiet0.trans ?_ (Quiet0.alloc _ _) | with_reducible refine Quiet0.trans ?_ (Quiet0.drew _) | fail)))); intro o3 c3 w3 ho3 hf3 hb3; (refine with_fr2 (w0 := wc) ?hch hf3 ?hlo ?_); (case hch => (repeat (first | with_reducible exact hqc | with_reducible exact Quiet0.refl _ | with_reducible refine Quiet0.trans ?_ (Quiet0.alloc _ _) | with_reducible refine Quiet0.trans ?_ (Quiet0.drew _) | fail))); (case hlo => (intro k hk; simp [Value.ownBlock] at hk; omega)); intro hqc hw3)
                  | ((refine step_spans _ rfl (.tmp 82) (.tmp 84) rfl (.slice o3 a c3) a ([] ++ rest.take a) HTL.out rfl ?hown (some ⟨wc.heap.size, 0, none⟩) [(px, py)] 1 1 rfl rfl ?hat (a + 1) rfl (by omega) ?_); (case hown => (first | with_reducible exact ho3 | with_reducible exact ho3.alloc _ | fail)); (case hat => ((refine sp_one ?_); (repeat (first | ((with_reducible refine blk_new _ _ _ _ ?hbe); (case hbe => (simp; done))) | with_reducible refine blk_after (Quiet0.alloc _ _) ?_ | with_reducible refine blk_drew ?_ | ((with_reducible refine blk_fr hf3 ?hbo ?_); (case hbo => (simp [Value.ownBlock]; done))) | ((with_reducible refine blk_fr hf3 ?hbo ?_); (case hbo => (simp [Value.ownBlock]; omega))) | fail)))); intro o4 c4 w4 ho4 hf4 hb4; (refine with_fr2 (w0 := wc) ?hch hf4 ?hlo ?_); (case hch => (repeat (first | with_reducible exact hqc | with_reducible exact Quiet0.refl _ | with_reducible refine Quiet0.trans ?_ (Quiet0.alloc _ _) | with_reducible refine Quiet0.trans ?_ (Quiet0.drew _) | fail))); (case hlo => (intro k hk; rcases hb3 k hk with h | h; (simp [Value.ownBlock] at h; omega); ((try simp at h); omega))); intro hqc hw4)
                  | ((refine step_spans _ rfl (.tmp 82) (.tmp 84) rfl (.slice o3 a c3) a ([] ++ rest.take a) HTL.out rfl ?hown (some ⟨wc.heap.size + 1, 0, none⟩) [(px, py)] 1 1 rfl rfl ?hat (a + 1) rfl (by omega) ?_); (case hown => (first | with_reducible exact ho3 | with_reducible exact ho3.alloc _ | fail)); (case hat => ((refine sp_one ?_); (repeat (first | ((with_reducible refine blk_new _ _ _ _ ?hbe); (case hbe => (simp; done))) | with_reducible refine blk_after (Quiet0.alloc _ _) ?_ | with_reducible refine blk_drew ?_ | ((with_reducible refine blk_fr hf3 ?hbo ?_); (case hbo => (simp [Value.ownBlock]; done))) | ((with_reducible refine blk_fr hf3 ?hbo ?_); (case hbo => (simp [Value.ownBlock]; omega))) | fail)))); intro o4 c4 w4 ho4 hf4 hb4; (refine with_fr2 (w0 := wc) ?hch hf4 ?hlo ?_); (case hch => (repeat (first | with_reducible exact hqc | with_reducible exact Quiet0.refl _ | with_reducible refine Quiet0.trans ?_ (Quiet0.alloc _ _) | with_reducible refine Quiet0.trans ?_ (Quiet0.drew _) | fail))); (case hlo => (intro k hk; rcases hb3 k hk with h | h; (simp [Value.ownBlock] at h; omega); ((try simp at h); omega))); intro hqc hw4)
                  | ((refine step_spans _ rfl (.tmp 82) (.tmp 84) rfl (.slice o3 a c3) a ([] ++ rest.take a) HTL.out rfl ?hown (some ⟨w3.heap.size, 0, none⟩) [(px, py)] 1 1 rfl rfl ?hat (a + 1) rfl (by omega) ?_); (case hown => (first | with_reducible exact ho3 | with_reducible exact ho3.alloc _ | fail)); (case hat => ((refine sp_one ?_); (repeat (first | ((with_reducible refine blk_new _ _ _ _ ?hbe); (case hbe => (simp; done))) | with_reducible refine blk_after (Quiet0.alloc _ _) ?_ | with_reducible refine blk_drew ?_ | ((with_reducible refine blk_fr hf3 ?hbo ?_); (case hbo => (simp [Value.ownBlock]; done))) | ((with_reducible refine blk_fr hf3 ?hbo ?_); (case hbo => (simp [Value.ownBlock]; omega))) | fail)))); intro o4 c4 w4 ho4 hf4 hb4; (refine with_fr2 (w0 := wc) ?hch hf4 ?hlo ?_); (case hch => (repeat (first | with_reducible exact hqc | with_reducible exact Quiet0.refl _ | with_reducible refine Quiet0.trans ?_ (Quiet0.alloc _ _) | with_reducible refine Quiet0.trans ?_ (Quiet0.drew _) | fail))); (case hlo => (intro k hk; rcases hb3 k hk with h | h; (simp [Value.ownBlock] at h; omega); ((try simp at h); omega))); intro hqc hw4)
                  | ((refine step_spans _ rfl (.tmp 85) (.tmp 88) rfl (.slice o4 (a + 1) c4) (a + 1) ([] ++ rest.take a ++ [(px, py)]) HTL1.out rfl ?hown (if rc = a then ro else Option.map (fun x => x.add (a * 2)) ro) (rest.drop a) (rest.length - a) (rc - a) HDL.out rfl ?hat N HNN.out HNB.out ?_); (case hown => (first | with_reducible exact ho4 | with_reducible exact ho4.alloc _ | fail)); (case hat => ((refine HDK.out.stay ?_); (repeat (first | with_reducible exact hqc | with_reducible exact Quiet0.refl _ | with_reducible refine Quiet0.trans ?_ (Quiet0.alloc _ _) | with_reducible refine Quiet0.trans ?_ (Quiet0.drew _) | fail)))); intro o5 c5 w5 ho5 hf5 hb5; (refine with_fr2 (w0 := wc) ?hch hf5 ?hlo ?_); (case hch => (repeat (first | with_reducible exact hqc | with_reducible exact Quiet0.refl _ | with_reducible refine Quiet0.trans ?_ (Quiet0.alloc _ _) | with_reducible refine Quiet0.trans ?_ (Quiet0.drew _) | fail))); (case hlo => (intro k hk; rcases hb4 k hk with h | h; (rcases hb3 k h with h | h; (simp [Value.ownBlock] at h; omega); ((try simp at h); omega)); ((try simp at h); omega))); intro hqc hw5)
                  | fail)
              all_goals
                go_wp2_with fail
                go_roundw
                case rel =>
                  have e : (rest.take a ++ [(px, py)] ++ rest.drop a).length = N := by have h1 := HTL.out; have h2 := HDL.out; have h3 := HNN.out; simp only [List.length_append, List.length_singleton]; omega
                  refine ⟨i + 1, rest.take a ++ [(px, py)] ++ rest.drop a, by go_num, by omega, ⟨?_, fun k hk => ?_⟩, by rw [← HR.out, HDR.out, List.foldl_cons, HN.out, ← HE.out, HRI.out], by rw [e]; have := HNE.out; omega, (HQF.out _ HFR.out).trans (HQ4.out.trans hqc)⟩
                  · rw [e]; simpa using ho5
                  · rcases hb5 k hk with h | h
                    · rcases hb4 k h with h | h
                      · rcases hb3 k h with h | h
                        · simp [Value.ownBlock] at h; omega
                        · (try simp at h); omega
                      · (try simp at h); omega
                    · (try simp at h); omega
                case measure => simp [intOf]; omega
    · have hlt' : ¬ (i : Int) < l.length := by omega
      have hfin : out = res := by rw [List.drop_of_length_le (by omega)] at hr; exact hr
      have HFIN := Lib.hid hfin
      clear hfin hrow hr hq
      go_wp2_with fail
      go_ret
      refine ⟨_, rfl, ?_, HQ.out⟩
      rw [← HFIN.out]
      exact HROW.out
end Go.Proofs.YtdlcakmjihfgfaaDoor
