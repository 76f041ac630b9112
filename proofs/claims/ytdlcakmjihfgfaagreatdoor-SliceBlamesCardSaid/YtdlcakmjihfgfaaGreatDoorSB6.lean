/-
  Texts laid together (SpMerge, TeSpans, TeListN, LexByte, LexKw): what each one proves, and its conditions, stands at its head.
-/
import Derived.Deep.QuietTactic
import Derived.IntWalk
import Derived.Deep.AppendLies
import Derived.Lib.SmallJoins
import Derived.Test.YtdlcakmjihfgfaaGreatDoorProg
import Derived.Test.YtdlcakmjihfgfaaGreatDoorShelfLex
import Derived.Test.YtdlcakmjihfgfaaGreatDoorSB1
import Derived.Test.YtdlcakmjihfgfaaGreatDoorSB2
import Derived.Test.YtdlcakmjihfgfaaGreatDoorSB3
import Derived.Test.YtdlcakmjihfgfaaGreatDoorSB4
import Derived.Test.YtdlcakmjihfgfaaGreatDoorSB5
section
/-
  span.Merge. Conditions: the spans lie in memory as told; there are few.
-/
namespace Go.Proofs.YtdlcakmjihfgfaaGreatDoor
open Go.RowKit Go.Shelf SpanPlain

theorem flat_news {R : Nat → Prop} {w : World} {o : Option Addr} {l : List Sp} (h : SpAt R w o l) : ∀ (j : Nat) (u : Value), (flat l)[j]? = some u → ∃ a, o = some a ∧ w.cell? (a.add j) = some u := by
  intro j u hu
  have hj : j < l.length * 2 := by
    have := (List.getElem?_eq_some_iff.1 hu).1
    rw [flat_length] at this; exact this
  have hk : j / 2 < l.length := by omega
  obtain ⟨b, off, h0, _, h2, h3⟩ := h (j / 2) _ (List.getElem?_eq_getElem hk)
  have k2 := flat_get l (j / 2) _ (List.getElem?_eq_getElem hk)
  refine ⟨_, h0, ?_⟩
  rw [Addr.add_lit]
  rcases Nat.mod_two_eq_zero_or_one j with e | e
  · have e' : j / 2 * 2 = j := by omega
    rw [e'] at k2 h2
    rw [k2.1] at hu; cases hu; exact h2
  · have e' : j / 2 * 2 + 1 = j := by omega
    have e'' : off + j / 2 * 2 + 1 = off + j := by omega
    rw [e'] at k2
    rw [e''] at h3
    rw [k2.2] at hu; cases hu; exact h3
theorem flat_one (l : List Sp) : ∀ u ∈ flat l, u.oneCell' = true := by
  intro u hu
  simp only [flat, List.mem_flatMap, sp2] at hu
  obtain ⟨t, _, h⟩ := hu
  simp at h
  rcases h with rfl | rfl <;> rfl
theorem flat_app (a b : List Sp) : flat (a ++ b) = flat a ++ flat b := by simp [flat]
theorem SpRow.form {w : World} {B : Nat} {v : Value} {l : List Sp} (h : SpRow w B v l) : ∃ o c, v = .slice o l.length c ∧ l.length ≤ maxLen := by
  rcases h.own.2 with ⟨h1, h2⟩ | ⟨g, cap, cur, rfl, h2, h3, h4, h5, _⟩
  · have e : l = [] := List.eq_nil_of_length_eq_zero h2
    subst e
    exact ⟨none, 0, h1, Nat.zero_le _⟩
  · exact ⟨_, cap, rfl, Nat.le_trans h4 h5⟩
/-- what Merge gives back -/
def SpPost (w : World) (l : List Sp) (e : Ending) (w' : World) : Prop := ∃ v, e = .returned v ∧ SpRow w' w.heap.size v l ∧ Quiet0 w w'
theorem deleteS_nil (w : World) : Calls Tryz.prog 54 #[.slice none 0 0, .func (.func 55) #[] #[]] w fun e w' => e = .returned (.slice none 0 0) ∧ Quiet0 w w' := by
  have HC := Lib.hid (indexS_any 55 #[] noS (enters_of Tryz.func55 (by kernel_rfl) rfl) [] none 0 w (fun _ => True) (SpAt.nil _ _ _) (fun t _ W _ => noneS_any t.1 t.2 W) (by simp))
  have e : idxS noS [] 0 = -1 := rfl
  rw [e] at HC
  clear e
  go_enter Tryz.func54, Tryz.ntmps54
  go_wp2_with fail
  refine HC.out.mono ?_; rintro e w1 ⟨rfl, hq⟩
  go_wp2_with fail
  go_ret
  exact ⟨rfl, hq⟩
theorem insertion_nil (p : Option Addr) (cap : Nat) (fv : Value) (w : World) : Calls Tryz.prog 91 #[.slice p 0 cap, .int .i64 0, .int .i64 0, fv] w fun e w' => e = .returned (.tuple #[]) ∧ w = w' := by
  go_enter Tryz.func91, Tryz.ntmps91
  go_wp2
  refine wp_loop_rounds 1 ?_
  rw [rounds_succ]
  go_wp2
  go_end0
  exact ⟨rfl, rfl⟩
set_option maxHeartbeats 2000000 in
set_option maxRecDepth 100000 in
theorem pdq_nil (p : Option Addr) (cap : Nat) (lim : Int) (fv : Value) (w : World) : Calls Tryz.prog 79 #[.slice p 0 cap, .int .i64 0, .int .i64 0, .int .i64 lim, fv] w fun e w' => e = .returned (.tuple #[]) ∧ w = w' := by
  go_enter Tryz.func79, Tryz.ntmps79
  go_wp2
  refine wp_loop_rounds 1 ?_
  rw [rounds_succ]
  go_wp2_with (go_at_call 91; refine (insertion_nil _ _ _ _).mono ?_; rintro e w' ⟨rfl, rfl⟩)
  (try simp only [Exit.inBlock, Exit.then]); refine bodyPost_ret (results_none rfl _ _ _) rfl ?_
  exact ⟨rfl, rfl⟩
theorem sortS_nil (fv : Value) (w : World) : Calls Tryz.prog 56 #[.slice none 0 0, fv] w fun e w' => e = .returned (.tuple #[]) ∧ w = w' := by
  have hl : ∀ W, Calls Tryz.prog 80 #[.int .u64 0] W fun e w' => e = .returned (.int .i64 (Lib.bitLen 0 : Nat)) ∧ W = w' := fun W => (Tryz.bits_Len 0 W (by omega) (by omega)).mono fun _ _ h => ⟨h.1, h.2.symm⟩
  generalize ((Lib.bitLen 0 : Nat) : Int) = r at hl
  go_enter Tryz.func56, Tryz.ntmps56
  go_wp2_with (first | (go_at_call 80; refine (hl _).mono ?_; rintro e w' ⟨rfl, rfl⟩) | (go_at_call 79; refine (pdq_nil _ _ _ _ _).mono ?_; rintro e w' ⟨rfl, rfl⟩))
  go_end0
  exact ⟨rfl, rfl⟩
theorem SpRow.some {w : World} {B n c : Nat} {o : Option Addr} {l : List Sp} (h : SpRow w B (.slice o n c) l) (hn : 0 < l.length) : ∃ g, o = some ⟨g, 0, none⟩ := by
  rcases h.own.2 with ⟨h1, h2⟩ | ⟨g, cap, cur, he, _⟩
  · omega
  · injection he with e1 e2 e3; exact ⟨g, e1⟩
theorem mstep_none {o : List Sp} {s : Sp} (h : o.getLast? = none) : mstep o s = o ++ [s] := by unfold mstep; rw [h]
theorem mstep_far {o : List Sp} {s t : Sp} (h : o.getLast? = some t) (ht : ¬ s.1 ≤ t.2) : mstep o s = o ++ [s] := by unfold mstep; rw [h]; simp [ht]
theorem mstep_near {o : List Sp} {s t : Sp} (h : o.getLast? = some t) (ht : s.1 ≤ t.2) : mstep o s = o.set (o.length - 1) (t.1, max t.2 s.2) := by
  have hs := getLast?_split h
  have e : mstep o s = o.dropLast ++ [(t.1, max t.2 s.2)] := by unfold mstep; rw [h]; simp [ht]
  rw [e]
  generalize o.dropLast = d at hs
  subst hs
  rw [List.length_append, List.length_singleton, Nat.add_sub_cancel, List.set_append_right _ _ (Nat.le_refl _), Nat.sub_self]; rfl
set_option maxRecDepth 100000 in
set_option maxHeartbeats 4000000 in
theorem merge_any (l : List Sp) (o : Option Addr) (cap : Nat) (w : World) (R : Nat → Prop) (hs : SpAt R w o l) (hz : l.length ≤ 100000) :
    Calls Tryz.prog 28 #[.slice o l.length cap] w (SpPost w (rmerge l)) := by
  have HS := Lib.hid hs
  clear hs
  by_cases hl0 : l = []
  · subst hl0
    have HR : Hid (rmerge [] = []) := rfl
    rw [HR.out]
    go_enter Tryz.func28, Tryz.ntmps28
    go_wp2_with (at_builtin; refine wpList_append_row w rfl (.const (.slice none 0 0)) (.tmp 7) 30 rfl 27 _ 2 16 elemSp (.slice none 0 0) 0 [] rfl (World.ownsRow_nil _ _ _ _) o 0 cap [] rfl rfl (fun j u hu => by simp at hu) (fun u hu => by simp at hu) (by unfold maxLen; omega) (by omega) ?_; intro o1 c1 w1 ho hf hob hnil)
    have HF := Lib.hid hf
    have he1 : Value.slice o1 0 c1 = .slice none 0 0 := by simpa using hnil
    rw [he1]
    clear ho hf hob hnil he1
    go_wp2_with fail
    refine (deleteS_nil _).mono ?_; rintro e w2 ⟨rfl, hq⟩
    have HQ : Hid (Quiet0 w w2) := Lib.hid ((Fr.mono HF.out (fun k hk h => by simp [Value.ownBlock] at h)).trans hq)
    clear hq
    go_wp2_with fail
    refine (sortS_nil _ _).mono ?_; rintro e w3 ⟨rfl, rfl⟩
    go_wp2_with fail
    refine wp_loop_rounds 1 ?_
    rw [rounds_succ]
    go_wp2_with fail
    go_ret
    exact ⟨_, rfl, SpRow.nil _ _, HQ.out⟩
  · have hlp : 0 < l.length := List.length_pos_iff.2 hl0
    obtain ⟨res, hres⟩ : ∃ res, rmerge l = res := ⟨_, rfl⟩
    have HRES := Lib.hid hres
    rw [hres]
    clear hres
    go_enter Tryz.func28, Tryz.ntmps28
    go_wp2_with (at_builtin; refine wpList_append_row w rfl (.const (.slice none 0 0)) (.tmp 7) 30 rfl 27 _ 2 16 elemSp (.slice none 0 0) 0 [] rfl (World.ownsRow_nil _ _ _ _) o l.length cap (flat l) rfl (flat_length l) (flat_news HS.out) (flat_one l) (by unfold maxLen; omega) (by omega) ?_; intro o1 c1 w1 ho hf hob hnil)
    simp only [Nat.zero_add, List.nil_append] at ho hob
    have hrow : SpRow w1 w.heap.size (.slice o1 l.length c1) l := ⟨ho, fun k hk => by rcases hob with h | h <;> (rw [hk] at h; simp [Value.ownBlock] at h); omega⟩
    have HF : Hid (Quiet0 w w1) := Lib.hid (Fr.mono hf (fun k hk h => by simp [Value.ownBlock] at h))
    obtain ⟨b, rfl⟩ := hrow.some hlp
    have hbl := hrow.blk
    have hsb := hbl.1
    have hBb := hbl.2.1
    clear ho hf hob hnil hrow hbl
    have HD := Lib.hid (deleteS_any l b c1 w1 hsb (by omega))
    clear hsb
    have hfl : (l.filter neS).length ≤ l.length := List.length_filter_le _ _
    go_wp2_with fail
    refine HD.out.mono ?_; rintro e w2 ⟨rfl, hsb2, hf2⟩
    have HSO := Lib.hid (sortS_any (l.filter neS) b c1 w2 hsb2 (by omega))
    have HF2 : Hid (Quiet0 w w2) := Lib.hid (Fr.trans' HF.out hf2 (fun k hk h => by omega))
    clear hsb2 hf2 HD
    go_wp2_with fail
    refine HSO.out.mono ?_; rintro e w3 ⟨rfl, l2, hp, hpw, hsb3, hf3⟩
    have HF3 : Hid (Quiet0 w w3) := Lib.hid (Fr.trans' HF2.out hf3 (fun k hk h => by omega))
    rw [← hp.length_eq]
    have hl2 : l2.length ≤ l.length := by rw [hp.length_eq]; exact hfl
    have HM : Hid (l2.foldl mstep [] = res) := by
      show _ = _
      rw [← HRES.out]
      refine merge_same l l2 (fun s hs' => ?_) hpw (fun s => ?_)
      · have := (hp.mem_iff.1 hs'); simp [List.mem_filter] at this; exact this.2
      · rw [hp.mem_iff]; simp [List.mem_filter]
    have HSB := Lib.hid hsb3
    have hb3 := hsb3.lt
    clear hp hpw hsb3 hf3 HSO hfl HF HF2
    go_wp2_with fail
    go_loopw [3, 14] (fun v t wr => ∃ (i : Nat) (out : List Sp), t = .int .i64 i ∧ i ≤ l2.length ∧ SpRow wr w3.heap.size v out ∧ (l2.drop i).foldl mstep out = res ∧ out.length ≤ i ∧ Quiet0 w3 wr) (fun _ t _ => l2.length - (intOf t).toNat)
    case atStart => exact ⟨0, [], rfl, Nat.zero_le _, SpRow.nil _ _, HM.out, Nat.zero_le _, Quiet0.refl _⟩
    case round =>
      obtain ⟨i, out, rfl, hi, hrow, hr, hoi, hq⟩ := hrel
      have HROW := Lib.hid hrow
      have HR := Lib.hid hr
      have HQ := Lib.hid hq
      obtain ⟨vo, vc, rfl, hmx⟩ := hrow.form
      have HSBR := Lib.hid (HSB.out.stay hq)
      clear hr hq
      by_cases hlt : i < l2.length
      · have hlt' : (i : Int) < l2.length := by omega
        obtain ⟨s, hsi⟩ : ∃ s, l2[i]? = some s := ⟨_, List.getElem?_eq_getElem hlt⟩
        obtain ⟨x, y⟩ := s
        obtain ⟨a0, a1, _, _⟩ := HSBR.out.at hsi
        have HDR := Lib.hid (sp_drop hsi)
        obtain ⟨W0, hW0⟩ : ∃ W0, W0 = wr.alloc (.cells #[.int .i64 x, .int .i64 y] 27) := ⟨_, rfl⟩
        have hq0 : Quiet0 wr W0 := by rw [hW0]; exact Quiet0.alloc _ _
        have b0 : W0.cell? ⟨wr.heap.size, 0, none⟩ = some (.int .i64 x) := by
          rw [hW0, cell_of_row _ _ _ _ _ (0, 0) (heap_alloc_new wr _)]; rfl
        have b1 : W0.cell? ⟨wr.heap.size, 1, none⟩ = some (.int .i64 y) := by
          rw [hW0, cell_of_row _ _ _ _ _ (0, 0) (heap_alloc_new wr _)]; rfl
        have HQ0 := Lib.hid hq0
        clear hsi hrow
        generalize hn : out.length = n at *
        have HNL := Lib.hid hn
        have HOW : Hid (∀ W, Quiet0 wr W → W.ownsRow 0 27 2 (.slice vo n vc) n (flat out)) := by
          intro W hq
          have := (HROW.out.stay hq).own
          rw [hn] at this; exact this
        cases hgl : out.getLast? with
        | none =>
          have HN : Hid (mstep out (x, y) = out ++ [(x, y)]) := Lib.hid (mstep_none hgl)
          have hn0 : n = 0 := by rw [← hn]; rw [List.getLast?_eq_none_iff] at hgl; rw [hgl]; rfl
          have hd0 : decide (0 < n) = false := by rw [hn0]; rfl
          clear hgl hn hn0
          go_upto_region 7 with fail
          rw [← hW0]
          clear hW0 a0 a1
          go_wp2_with fail
          go_quiet (fail)
          go_wp2_with (at_builtin; refine wpList_append_one _ rfl (.tmp 47) (.tmp 49) 30 rfl 27 _ 2 16 elemSp (.slice vo n vc) n (flat out) rfl (HOW.out _ (HQ0.out.trans (Quiet0.drewN _ _))) #[.int .i64 x, .int .i64 y] rfl rfl (by simp [Value.oneCell']) (by unfold maxLen; omega) (by omega) ?_; intro g c' w2 ho hf hg)
          have HR2 : Hid (SpRow w2 w3.heap.size (.slice (some ⟨g, 0, none⟩) (n + 1) c') (out ++ [(x, y)])) := by
            show SpRow _ _ _ _
            have hrw := HROW.out.stay (HQ0.out.trans (Quiet0.drewN _ nq))
            rw [← HNL.out] at ho ⊢
            refine SpRow.snoc (x := x) (y := y) hrw ho ?_ ?_
            · exact hg
            · exact Nat.le_trans HQ.out.size (HQ0.out.trans (Quiet0.drewN _ nq)).size
          have HQ2 : Hid (Quiet0 w3 w2) := Lib.hid (Fr.trans' (HQ.out.trans (HQ0.out.trans (Quiet0.drewN _ nq))) hf (fun kk hkk h => by have := HROW.out.low kk h; omega))
          clear ho hf hg
          go_wp2_with fail
          go_roundw
          case rel => exact ⟨i + 1, out ++ [(x, y)], by go_num, by omega, HR2.out, by rw [← HN.out, ← HR.out, HDR.out]; rfl, by rw [List.length_append, HNL.out, List.length_singleton]; omega, HQ2.out⟩
          case measure => simp [intOf]; omega
        | some t =>
          have hnp : 0 < n := by rcases Nat.eq_zero_or_pos n with h | h; · rw [← hn, List.length_eq_zero_iff] at h; rw [h] at hgl; cases hgl
                                 · exact h
          obtain ⟨k, hk⟩ : ∃ k, n = k + 1 := ⟨n - 1, by omega⟩
          have HK := Lib.hid hk
          have hgk : out[k]? = some t := by rw [List.getLast?_eq_getElem?, hn, hk] at hgl; exact hgl
          have hd0 : decide (0 < n) = true := by simp; omega
          have hkn : (k : Int) < (n : Int) := by omega
          have hkn' : k < n := by omega
          have hmx' := hmx
          unfold maxLen at hmx'
          have hw : IntKind.i64.wrap ((n : Int) - 1) = (k : Int) := by rw [IntWalk.i64_in _ (by omega)]; omega
          obtain ⟨gb, rfl⟩ := HROW.out.some (by omega)
          obtain ⟨hb0, hb1, hbx⟩ := HROW.out.blk
          clear hbx
          have HB0 := Lib.hid (hb0.stay HQ0.out)
          obtain ⟨e0, e1, e2, e3⟩ := HB0.out.at hgk
          obtain ⟨tx, ty⟩ := t
          have HGK := Lib.hid hgk
          clear hgk
          by_cases hxt : x ≤ ty
          · have HN : Hid (mstep out (x, y) = out.set k (tx, max ty y)) := by
              show _ = _
              rw [mstep_near hgl hxt, hn, hk]; rfl
            clear hgl hn hk hb0
            go_upto_region 7 with fail
            rw [← hW0]
            clear hW0 a0 a1
            go_wp2_with fail
            go_quiet (fail)
            go_wp2_with fail
            refine wp_region_still_tail 14 (by kernel_rfl) (by kernel_rfl) ?_
            simp only [List.take_succ_cons, List.take_zero, List.drop_succ_cons, List.drop_zero]
            change wpStill _ _ (World.drew (W0.drewN nq)) _ _ _
            repeat still_step
            refine wpStill_nil ?_
            change wpList _ _ _ _ _ (World.drew (W0.drewN nq))
            go_wp2_with fail
            go_roundw
            case rel =>
              have hb' := ((HB0.out.stay (Quiet0.drewN _ (nq + 1))).set1 (y := max ty y) HGK.out).row hb1
              rw [List.length_set, HNL.out] at hb'
              refine ⟨i + 1, _, by go_num, by omega, hb', by rw [← HN.out, ← HR.out, HDR.out]; rfl, by rw [List.length_set, HNL.out]; omega, ?_⟩
              exact Fr.trans' (HQ.out.trans (HQ0.out.trans (Quiet0.drewN _ (nq + 1)))) (Fr.setCell (fun k => k = gb) _ ⟨gb, k * 2 + 1, none⟩ _ rfl) (fun kk hkk h => by omega)
            case measure => simp [intOf]; omega
          · have HN : Hid (mstep out (x, y) = out ++ [(x, y)]) := Lib.hid (mstep_far hgl hxt)
            clear hgl hn hk hb0
            go_upto_region 7 with fail
            rw [← hW0]
            clear hW0 a0 a1
            go_wp2_with fail
            go_quiet (fail)
            go_wp2_with (at_builtin; refine wpList_append_one _ rfl (.tmp 47) (.tmp 49) 30 rfl 27 _ 2 16 elemSp (.slice (some ⟨gb, 0, none⟩) n vc) n (flat out) rfl (HOW.out _ (HQ0.out.trans (Quiet0.drewN _ _))) #[.int .i64 x, .int .i64 y] rfl rfl (by simp [Value.oneCell']) (by unfold maxLen; omega) (by omega) ?_; intro g c' w2 ho hf hg)
            have HR2 : Hid (SpRow w2 w3.heap.size (.slice (some ⟨g, 0, none⟩) (n + 1) c') (out ++ [(x, y)])) := by
              show SpRow _ _ _ _
              have hrw := HROW.out.stay (HQ0.out.trans (Quiet0.drewN _ nq))
              rw [← HNL.out] at ho ⊢
              refine SpRow.snoc (x := x) (y := y) hrw ho ?_ ?_
              · exact hg
              · exact Nat.le_trans HQ.out.size (HQ0.out.trans (Quiet0.drewN _ nq)).size
            have HQ2 : Hid (Quiet0 w3 w2) := Lib.hid (Fr.trans' (HQ.out.trans (HQ0.out.trans (Quiet0.drewN _ nq))) hf (fun kk hkk h => by have := HROW.out.low kk h; omega))
            clear ho hf hg
            go_wp2_with fail
            go_roundw
            case rel => exact ⟨i + 1, out ++ [(x, y)], by go_num, by omega, HR2.out, by rw [← HN.out, ← HR.out, HDR.out]; rfl, by rw [List.length_append, HNL.out, List.length_singleton]; omega, HQ2.out⟩
            case measure => simp [intOf]; omega
      · have hlt' : ¬ (i : Int) < l2.length := by omega
        have hfin : out = res := by have := HR.out; rw [List.drop_of_length_le (by omega)] at this; exact this
        have HFIN := Lib.hid hfin
        clear hfin
        go_wp2_with fail
        go_ret
        refine ⟨_, rfl, ?_, HF3.out.trans HQ.out⟩
        rw [← HFIN.out]
        exact ⟨HROW.out.own, fun k hk => Nat.le_trans HF3.out.size (HROW.out.low k hk)⟩
theorem rins_length (s : Sp) (r : List Sp) : (rins s r).length = r.length + 1 := by
  unfold rins
  have := congrArg List.length (List.takeWhile_append_dropWhile (p := fun t : Sp => decide (t.1 < s.1)) (l := r))
  simp only [List.length_append, List.length_singleton] at *
  omega
theorem absorb_length (o : List Sp) : ∀ p : Sp × List Sp, (o.foldl absorb p).2.length ≤ p.2.length + o.length := by
  induction o with
  | nil => intro p; simp
  | cons t o ih =>
    intro p
    rw [List.foldl_cons]
    have := ih (absorb p t)
    have h2 : (absorb p t).2.length ≤ p.2.length + 1 := by unfold absorb; split <;> simp
    simp only [List.length_cons]
    omega
theorem rmerge_length (l : List Sp) : (rmerge l).length ≤ l.length := by
  have key : ∀ (l : List Sp) (o : List Sp), (l.foldl rstep o).length ≤ o.length + l.length := by
    intro l
    induction l with
    | nil => intro o; simp
    | cons s l ih =>
      intro o
      rw [List.foldl_cons]
      have h1 := ih (rstep o s)
      have h2 : (rstep o s).length ≤ o.length + 1 := by
        unfold rstep
        split
        · omega
        · rw [rins_length]
          have := absorb_length o (s, [])
          simp only [List.length_nil] at this
          omega
      simp only [List.length_cons]
      omega
  have := key l []
  simpa [rmerge] using this
end Go.Proofs.YtdlcakmjihfgfaaGreatDoor
end
section
/-
  term.Spans: the spans of all terms, a new row. Conditions: the term lies in memory as told; there are few of them.
-/
namespace Go.Proofs.YtdlcakmjihfgfaaGreatDoor
open Go.RowKit Go.Shelf SpanPlain

attribute [local go_sem] Oper.semAt_some
/-- append of one element, which lies in a new block of its own, to a row of the call's own: inside a fence -/
theorem wpListIn_append_one {F : Fence} {nF : Nat} {P : Program} (W : World) {ops : Array Oper} {rest : List Oper} {o : Oper} {a : Act} {Q : Exit → Act → World → Prop}
    (hgd : o.guard = none) (s x : Operand) (t : TypeId) (ho : o.op = Op.call { callee := Callee.builtin Builtin.append, args := #[s, x], argTypes := #[t, t] })
    (e : TypeId) (z : Value) (size bytes : Nat) (he : Elem P t e z size bytes) (hty : o.type = e ∨ True)
    (v : Value) (n : Nat) (xs : List Value) (hs : a.eval s = v) (hown : W.ownsRow 0 e size v n xs)
    (news : Array Value) (hx : a.eval x = .slice (some ⟨W.heap.size, 0, none⟩) 1 1) (hn : news.size = size) (h1c : ∀ u ∈ news.toList, u.oneCell' = true)
    (b1 : n + 1 ≤ maxLen) (b2 : (n + 1) * bytes ≤ 140737488355328)
    (hK : ∀ g c w', w'.ownsRow 0 e size (.slice (some ⟨g, 0, none⟩) (n + 1) c) (n + 1) (xs ++ news.toList) → Fr (fun k => v.ownBlock = some k) W w' → (v.ownBlock = some g ∨ W.heap.size ≤ g) → wpListIn F nF P ops Q rest (a.put o.dst (.slice (some ⟨g, 0, none⟩) (n + 1) c)) w') :
    wpListIn F nF P ops Q (o :: rest) a (W.alloc (.cells news e)) := by
  obtain ⟨i0, hi, hz0, hz1, hz2⟩ := info_parts he.info
  refine wpListIn_plain hgd fun K hK' => ?_
  obtain ⟨v', w', hr, h2, h3, h4, h5⟩ := run_append_own_at (P := P) (W.alloc (.cells news e)) 0 t o.type e i0 z size bytes he.under hi hz0 hz1 hz2 he.cells he.pos v n xs (hown.alloc _) ⟨W.heap.size, 0, none⟩ 1 1 news.toList (by simpa using hn)
    (by
      intro j u hu
      rw [Addr.add_lit, cell_of_row (W.alloc (.cells news e)) W.heap.size (0 + j) news e (0, 0) (heap_alloc_new W _)]
      simpa using hu) h1c b1 b2 (Nat.zero_le _)
  unfold Oper.wpIn
  refine ⟨by simp [Oper.about, ho, resolve, Target.leads, Sem.run_pure], ?_⟩
  rw [Oper.semAt_plain F _ _ (by rw [ho]; intro c hc'; cases hc')]
  simp [execOp, ho, resolve, invoke, builtin, hs, hx, hr, Result.andThen]
  refine hK' _ _ ?_
  rcases h2.2 with ⟨rfl, h0⟩ | ⟨g, cap, cur, rfl, _⟩
  · omega
  · refine hK g cap w' h2 ((Fr.alloc _ W _).trans (Fr.grown h3 (fun k hk => hk))) ?_
    rcases h5 with h | h
    · exact .inl (by rw [← h]; rfl)
    · simp [Value.ownBlock] at h; exact .inr (by omega)
/-- the spans of a list of terms -/
def spx (xs : List (Nd × To)) : List Sp := xs.map (fun x => (x.1.fr, x.1.en))
/-- between two rounds of Spans -/
def SnI (B : Nat) (w : World) (xs : List (Nd × To)) (i : Nat) (D : Nat → Prop) (W : World) : Prop :=
  ∃ v, (∀ k, D k ↔ (k = w.heap.size + 1 ∨ v.ownBlock = some k)) ∧ W.heap[w.heap.size + 1]? = some (.cells #[v] 30 (0, 0)) ∧ SpRow W B v (spx (xs.take i)) ∧ Quiet0 w W
theorem SnI.fr {B : Nat} {w : World} {xs : List (Nd × To)} {i : Nat} {D S : Nat → Prop} {W W' : World} (h : SnI B w xs i D W) (hf : Fr S W W') (h1 : ∀ k, D k → ¬ S k) (h2 : ∀ k, k < w.heap.size → ¬ S k) : SnI B w xs i D W' := by
  obtain ⟨v, hd, hb, hr, hq⟩ := h
  exact ⟨v, hd, blk_fr hf (h1 _ ((hd _).2 (.inl rfl))) hb, hr.fr hf (fun k hk => h1 _ ((hd _).2 (.inr hk))), hq.trans' hf (fun k hk hs => h2 k hk hs)⟩
set_option maxHeartbeats 4000000 in
set_option maxRecDepth 100000 in
theorem spansTm_any (h : Nd) (ps : To) (w : World) (R : Nat → Prop) (o1 : Option Addr) (l1 c1 : Nat) (o2 : Option Addr) (l2 c2 : Nat) (hs1 : SlcIn R w o1 l1 h.tp) (hs : TSlc R w o2 l2 ps) (hz : ps.size ≤ 100000) :
    Calls Tryz.prog 14 #[tmv h o1 l1 c1 o2 l2 c2] w (SpPost w (spx (To.cons h ps .nil).flat)) := by
  have hxl : (To.cons h ps .nil).flat.length ≤ 1000000 := by simp [To.flat_length, To.size]; omega
  obtain ⟨xs, hxs⟩ : ∃ xs, (To.cons h ps .nil).flat = xs := ⟨_, rfl⟩
  rw [hxs] at hxl ⊢
  refine (callsIn_wide (n := 5)).1 ?_
  refine callsIn_of_wp_marks Tryz.func14 rfl trivial ?_ rfl
  simp only [Tryz.ntmps14, List.size_toArray, List.length_cons, List.length_nil, Nat.reduceAdd, Nat.reduceSub, Array.replicate_succ, Array.replicate_zero, List.push_toArray, List.append_toArray, List.nil_append, List.cons_append]
  have HC := fun W => (callsIn_wide (n := 4)).2 (all_call h o1 l1 c1 o2 l2 c2 W)
  unfold tmv at HC ⊢
  gi_wp2_with (fail)
  refine ⟨trivial, (HC _).mono ?_⟩; rintro e W2' ⟨rfl, hW2⟩
  obtain ⟨W1, hW1⟩ : ∃ W1, W1 = ((w.alloc (.cells (cells9 h o1 l1 c1 o2 l2 c2) 29)).alloc (.cells #[.slice none 0 0] 30)) := ⟨_, rfl⟩
  have hz1 : W1.heap.size = w.heap.size + 1 + 1 := by rw [hW1]; simp
  have hq1 : Quiet0 w W1 := by rw [hW1]; exact (Quiet0.alloc _ _).trans (Quiet0.alloc _ _)
  have hb1 : W1.heap[w.heap.size + 1]? = some (.cells #[.slice none 0 0] 30 (0, 0)) := by
    rw [hW1]
    have := heap_alloc_new (w.alloc (.cells (cells9 h o1 l1 c1 o2 l2 c2) 29)) (.cells #[.slice none 0 0] 30)
    simpa using this
  have hW2' : W2' = W1.alloc (.cells (cells9 h o1 l1 c1 o2 l2 c2) 29) := by rw [hW1]; exact hW2
  have hq2 : Quiet0 w W2' := by rw [hW2']; exact hq1.trans (Quiet0.alloc _ _)
  have hb2 : W2'.heap[w.heap.size + 1]? = some (.cells #[.slice none 0 0] 30 (0, 0)) := by
    rw [hW2', Below.heap_alloc _ _ _ (by omega)]; exact hb1
  have htb : W2'.heap[W1.heap.size]? = some (.cells (cells9 h o1 l1 c1 o2 l2 c2) 29 (0, 0)) := by rw [hW2']; exact heap_alloc_new W1 _
  have hz2 : W2'.heap.size = w.heap.size + 3 := by rw [hW2']; simp; omega
  have hseq := all_seq (5 - 1) (fun k => k < w.heap.size ∨ k = W1.heap.size) h ps o1 l1 c1 o2 l2 c2 W1.heap.size W2' (fun k hk => by omega) htb (.inr rfl) ((hs1.mono (T := fun k => k < w.heap.size ∨ k = W1.heap.size) (fun k hk _ => .inl hk)).stay hq2) ((hs.mono (T := fun k => k < w.heap.size ∨ k = W1.heap.size) (fun k hk _ => .inl hk)).stay hq2) hz
  rw [hz1] at hseq
  rw [hxs] at hseq
  have HSEQ := Lib.hid hseq
  have HST : Hid (SnI (w.heap.size + 5) w xs 0 (fun j => j = w.heap.size + 1) W2') := ⟨.slice none 0 0, fun k => by simp [Value.ownBlock], hb2, SpRow.nil _ _, hq2⟩
  clear hW1 hW2 hW2' hq1 hb1 hq2 hb2 htb hseq HC hxs
  gi_wp2_with (fail)
  refine wpIn_range_c (w := W2') rfl (enters_of Tryz.func47 (by kernel_rfl) rfl) HSEQ.out (fun k hk => by omega) (Fr.refl _ _) (fun i x va W he => encT_size he)
    (SnI (w.heap.size + 5) w xs)
    (fun i x a' D W => SnI (w.heap.size + 5) w xs i D W ∧ ∃ (xb : Nat) (t8 t9 : Value) (p1 : Option Addr) (m1 d1 : Nat) (p2 : Option Addr) (m2 d2 : Nat), W.heap[xb]? = some (.cells (cells9 x.1 p1 m1 d1 p2 m2 d2) 29 (0, 0)) ∧ xb ≠ W2'.heap.size + 1 ∧ a' = { tmps := #[.agg #[.int .i64 h.k, .string h.nm, .int .i64 h.n, .int .i64 h.tk, .int .i64 h.tn, .slice o1 l1 c1, .slice o2 l2 c2, .int .i64 h.fr, .int .i64 h.en], .pointer (some ⟨w.heap.size, 0, none⟩), .slice none 0 0, .pointer (some ⟨w.heap.size + 1, 0, none⟩), undef, .pointer (some ⟨xb, 0, none⟩), .agg #[.int .i64 h.k, .string h.nm, .int .i64 h.n, .int .i64 h.tk, .int .i64 h.tn, .slice o1 l1 c1, .slice o2 l2 c2, .int .i64 h.fr, .int .i64 h.en], .func (.func 47) #[] #[.pointer (some ⟨w.heap.size + 1 + 1, 0, none⟩)], t8, t9, undef, undef, undef, undef, undef, undef], defers := [] })
    (fun c W => False) (fun k => k = w.heap.size + 1) ?own ?stay ?stayM ?stayX ?start ?assign ?body ?done ?stop
  case own =>
    rintro i D A ⟨v, hd, hb, hr, hq⟩ k hk
    have hl := lt_of_block hb
    rcases (hd k).1 hk with e | e
    · exact ⟨by omega, by omega, .inl (by omega)⟩
    · have h1 := hr.low k e
      exact ⟨hr.lt k e, by omega, .inr (by omega)⟩
  case stay =>
    rintro i D A B hI hf
    exact hI.fr hf (fun k hk h => h.2 hk) (fun k hk h => by have := h.1; omega)
  case stayM =>
    rintro i x a' D A B ⟨hI, xb, t8, t9, p1, m1, d1, p2, m2, d2, hxb, hne, ha⟩ hf
    refine ⟨hI.fr hf (fun k hk h => ?_) (fun k hk h => by omega), xb, t8, t9, p1, m1, d1, p2, m2, d2, blk_fr hf hne hxb, hne, ha⟩
    obtain ⟨v, hd, hb, hr, hq⟩ := hI
    rcases (hd k).1 hk with e | e
    · omega
    · have := hr.low k e; omega
  case stayX => rintro c A B h hf; exact h
  case start => exact HST.out
  case assign =>
    rintro l i x va D W K hx ⟨p1, m1, d1, p2, m2, d2, rfl, hp1, hp2⟩ hI hWs hK
    unfold tmv
    have hq := Quiet0.alloc W (.cells (cells9 x.1 p1 m1 d1 p2 m2 d2) 29)
    have hnew := heap_alloc_new W (.cells (cells9 x.1 p1 m1 d1 p2 m2 d2) 29)
    have hne : W.heap.size ≠ W2'.heap.size + 1 := by omega
    have hI2 := hI.fr (S := fun _ => False) hq (fun _ _ h => h) (fun _ _ h => h)
    clear hI hWs hp1 hp2
    gi_wp2
    exact hK _ _ ⟨hI2, W.heap.size, .int .i64 (i : Int), tmv x.1 p1 m1 d1 p2 m2 d2, p1, m1, d1, p2, m2, d2, hnew, hne, by simp [tmv]⟩ hq
  case body =>
    rintro l i x a' D W hx ⟨hI, xb, t8, t9, p1, m1, d1, p2, m2, d2, hxb, hne, rfl⟩ hW
    obtain ⟨v, hd, hb, hr, hq⟩ := hI
    obtain ⟨a0, a1, a2, a3, a4, a5, a6, a7, a8⟩ := cells9_block hxb
    have cv := cell_of_one hb
    have hil := (List.getElem?_eq_some_iff.1 hx).1
    have hln : (spx (xs.take i)).length = i := by simp [spx]; omega
    have hfx : spx (xs.take (i + 1)) = spx (xs.take i) ++ [(x.1.fr, x.1.en)] := by simp [spx, List.take_add_one, hx]
    have HFX := Lib.hid hfx
    have hl2 : (spx (xs.take i)).length ≤ 1000000 := by omega
    clear hln
    have HD := Lib.hid hd
    have HB := Lib.hid hb
    have HQ := Lib.hid hq
    generalize spx (xs.take i) = out at *
    obtain ⟨vo, vc, rfl, hmx⟩ := hr.form
    have HR := Lib.hid hr
    have hnb : ∀ k, (Value.slice vo out.length vc).ownBlock = some k → k ≠ w.heap.size + 1 := fun k hk e => by have := HR.out.low k hk; omega
    clear hfx hd hb hq hr hxb a0 a1 a2 a3 a4 a5 a6 hmx
    gi_wp2_with (gi_at_builtin; refine wpListIn_append_one W rfl (.tmp 10) (.tmp 13) 30 rfl 27 _ 2 16 elemSp (.inr trivial) (.slice vo out.length vc) out.length (flat out) rfl HR.out.own #[.int .i64 x.1.fr, .int .i64 x.1.en] rfl rfl (by simp [Value.oneCell']) (by unfold maxLen; omega) (by omega) ?_; intro g c' w4 ho hf hg; have hr4 : SpRow w4 (w.heap.size + 5) (.slice (some ⟨g, 0, none⟩) (out.length + 1) c') (out ++ [(x.1.fr, x.1.en)]) := SpRow.snoc HR.out ho hg (by omega); have hb4 := blk_fr hf (fun e => hnb _ e rfl) HB.out; have zz := free_of_one hb4; have cc := cell_of_one hb4; clear ho cv)
    have hfs := Fr.setCell (fun k => k = w.heap.size + 1) w4 ⟨w.heap.size + 1, 0, none⟩ (.slice (some ⟨g, 0, none⟩) (out.length + 1) c') rfl
    have hg5 : w.heap.size + 5 ≤ g := hr4.low g rfl
    refine ⟨fun k => k = w.heap.size + 1 ∨ k = g, ⟨.slice (some ⟨g, 0, none⟩) (out.length + 1) c', fun k => by simp [Value.ownBlock, eq_comm], one_setCell hb4, ?_, ?_⟩, ?_, ?_⟩
    · rw [HFX.out]; exact hr4.fr hfs (fun k hk e => by simp [Value.ownBlock] at hk; omega)
    · exact (HQ.out.trans' hf (fun k hk e => by have := HR.out.low k e; omega)).trans' hfs (fun k hk e => by omega)
    · exact (hf.mono (fun k _ e => (HD.out k).2 (.inr e))).trans (hfs.mono (fun k _ e => (HD.out k).2 (.inl e)))
    · rintro k (e | e)
      · exact .inl ((HD.out k).2 (.inl e))
      · subst e
        rcases hg with h | h
        · exact .inl ((HD.out _).2 (.inr h))
        · exact .inr h
  case done =>
    rintro D W ⟨v, hd, hb, hr, hq⟩ hdef
    rw [List.take_length] at hr
    have cc := cell_of_one hb
    gi_wp2
    refine ⟨by simp, .inl ⟨_, _, rfl, run_takeDeferred hdef, ?_⟩⟩
    have hfp := Fr.putObj (fun k => k = W2'.heap.size) W W2'.heap.size (.deferred none) rfl
    refine ⟨_, by simp [results, Tryz.results14, go_sem], v, rfl, ?_, ?_⟩
    · exact ⟨(hr.fr hfp (fun k hk e => by have := hr.low k hk; omega)).own, fun k hk => by have := hr.low k hk; omega⟩
    · exact hq.trans' hfp (fun k hk e => by omega)
  case stop => rintro c W h; exact h.elim
end Go.Proofs.YtdlcakmjihfgfaaGreatDoor
end
section
/-
  ref.List of a term: the heads of all terms, in order. Conditions: the term lies in memory as told; there are few parts of it.
-/
namespace Go.Proofs.YtdlcakmjihfgfaaGreatDoor
open Go.RowKit

/-- cells that are terms with such heads -/
def RowN : List Value → List Nd → Prop
  | xs, [] => xs = []
  | xs, h :: r => ∃ o1 l1 c1 o2 l2 c2 ys, xs = (cells9 h o1 l1 c1 o2 l2 c2).toList ++ ys ∧ RowN ys r
theorem RowN.app : ∀ (l l' : List Nd) (xs ys : List Value), RowN xs l → RowN ys l' → RowN (xs ++ ys) (l ++ l')
  | [], l', xs, ys, h, h' => by cases h; exact h'
  | t :: r, l', xs, ys, h, h' => by
    obtain ⟨o1, l1, c1, o2, l2, c2, zs, rfl, hr⟩ := h
    exact ⟨o1, l1, c1, o2, l2, c2, _, by rw [List.append_assoc], RowN.app r l' zs ys hr h'⟩
theorem RowN.get : ∀ (l : List Nd) (xs : List Value) (i : Nat) (t : Nd), RowN xs l → l[i]? = some t → ∃ o1 l1 c1 o2 l2 c2, ∀ j, j < 9 → xs[i * 9 + j]? = (cells9 t o1 l1 c1 o2 l2 c2)[j]?
  | [], xs, i, t, _, h => by simp at h
  | u :: r, xs, 0, t, h, hi => by
    obtain ⟨o1, l1, c1, o2, l2, c2, ys, rfl, hr⟩ := h
    simp at hi; subst hi
    refine ⟨o1, l1, c1, o2, l2, c2, fun j hj => ?_⟩
    rw [Nat.zero_mul, Nat.zero_add, List.getElem?_append_left (by simpa using hj)]
    simp
  | u :: r, xs, i + 1, t, h, hi => by
    obtain ⟨o1, l1, c1, o2, l2, c2, ys, rfl, hr⟩ := h
    obtain ⟨p1, m1, d1, p2, m2, d2, hj⟩ := RowN.get r ys i t hr (by simpa using hi)
    refine ⟨p1, m1, d1, p2, m2, d2, fun j hj' => ?_⟩
    rw [List.getElem?_append_right (by simp; omega), ← hj j hj']
    congr 1
    simp; omega
theorem RowN.one : ∀ (l : List Nd) (xs : List Value), RowN xs l → ∀ u ∈ xs, u.oneCell' = true
  | [], xs, h, u, hu => by cases h; simp at hu
  | t :: r, xs, h, u, hu => by
    obtain ⟨o1, l1, c1, o2, l2, c2, ys, rfl, hr⟩ := h
    rcases List.mem_append.1 hu with h | h
    · simp at h
      rcases h with h | h | h | h | h | h | h | h | h <;> subst h <;> rfl
    · exact RowN.one r ys hr u h
/-- a row of terms of the call's own, with such heads -/
def ListN (B : Nat) (W : World) (o : Option Addr) (c : Nat) (l : List Nd) (xs : List Value) : Prop :=
  W.ownsRow 0 29 9 (.slice o l.length c) l.length xs ∧ RowN xs l ∧ ∀ k, (Value.slice o l.length c).ownBlock = some k → B ≤ k
theorem ListN.stay {B : Nat} {W W' : World} {o : Option Addr} {c : Nat} {l : List Nd} {xs : List Value} (h : ListN B W o c l xs) (hq : Quiet0 W W') : ListN B W' o c l xs :=
  ⟨ownsRow_fr h.1 hq (fun _ _ h => h), h.2⟩
/-- a slice's terms with such heads -/
def HeadsAt (w : World) (o : Option Addr) (l : List Nd) : Prop := ∀ i t, l[i]? = some t → ∃ b off o1 l1 c1 o2 l2 c2, o = some ⟨b, off, none⟩ ∧ Cells9 w b (off + i * 9) t o1 l1 c1 o2 l2 c2
theorem HeadsAt.stay {w w' : World} {o : Option Addr} {l : List Nd} (h : HeadsAt w o l) (hq : Quiet0 w w') : HeadsAt w' o l := by
  intro i t ht
  obtain ⟨b, off, o1, l1, c1, o2, l2, c2, ho, hc⟩ := h i t ht
  exact ⟨b, off, o1, l1, c1, o2, l2, c2, ho, hc.fr hq (fun h => h)⟩
theorem ListN.heads {B : Nat} {W : World} {o : Option Addr} {c : Nat} {l : List Nd} {xs : List Value} (h : ListN B W o c l xs) : HeadsAt W o l := by
  intro i t ht
  rcases h.1.2 with ⟨_, h0⟩ | ⟨g, cap', cur, he, _⟩
  · rw [List.length_eq_zero_iff.1 h0] at ht; simp at ht
  · injection he with h1 h2 h3
    subst h1
    obtain ⟨o1, l1, c1, o2, l2, c2, hj⟩ := RowN.get l xs i t h.2.1 ht
    have hc : ∀ j, j < 9 → W.cell? ⟨g, i * 9 + j, none⟩ = (cells9 t o1 l1 c1 o2 l2 c2)[j]? := by
      intro j h8
      have e := hj j h8
      rw [Array.getElem?_eq_getElem (by simpa using h8)] at e ⊢
      have := h.1.cells (g := g) rfl (i * 9 + j) _ e
      simpa [Addr.add_lit] using this
    refine ⟨g, 0, o1, l1, c1, o2, l2, c2, rfl, ?_⟩
    rw [Nat.zero_add]
    exact ⟨hc 0 (by omega), hc 1 (by omega), hc 2 (by omega), hc 3 (by omega), hc 4 (by omega), hc 5 (by omega), hc 6 (by omega), hc 7 (by omega), hc 8 (by omega)⟩
/-- the heads of all terms -/
def hds (f : To) : List Nd := f.flat.map (·.1)
theorem hds_cons (h : Nd) (ps r : To) : hds (.cons h ps r) = (h :: hds ps) ++ hds r := by simp [hds, To.flat]
theorem hds_length (f : To) : (hds f).length = f.size := by unfold hds; rw [List.length_map, To.flat_length]
def ListQ (w : World) (l : List Nd) (e : Ending) (w' : World) : Prop := ∃ o c xs, e = .returned (.slice o l.length c) ∧ ListN w.heap.size w' o c l xs ∧ Quiet0 w w'
def RListN (h : Nd) (ps : To) : Prop := ∀ (w : World) (R : Nat → Prop) (o1 : Option Addr) (l1 c1 : Nat) (o2 : Option Addr) (l2 c2 : Nat), TSlc R w o2 l2 ps → ps.size ≤ 100000 →
  Calls Tryz.prog 17 #[tmv h o1 l1 c1 o2 l2 c2] w (ListQ w (h :: hds ps))
set_option maxHeartbeats 2000000 in
theorem refListN_any (h : Nd) (ps : To) : RListN h ps := by
  refine To.ind' (T := RListN) ?_ h ps
  intro h ps ih w R o1 l1 c1 o2 l2 c2 hs hsz
  have HS := Lib.hid hs
  have IH := Lib.hid ih
  have hl := hs.1
  have hll := To.length_le ps
  rw [← hl] at hll
  have HL := Lib.hid hl
  clear hs ih hl
  unfold tmv
  go_enter Tryz.func17, Tryz.ntmps17
  go_wp2_with fail
  obtain ⟨W0, hW0⟩ : ∃ W0, W0 = w.alloc (.cells (cells9 h o1 l1 c1 o2 l2 c2) 29) := ⟨_, rfl⟩
  have HB : Hid (∀ W, Quiet0 W0 W → W.cell? ⟨w.heap.size, 6, none⟩ = some (.slice o2 l2 c2)) := by
    intro W hq; rw [hW0] at hq; exact (box9 w h o1 l1 c1 o2 l2 c2 _ W hq).2.2.2.2.2.2.1
  have HQ0 : Hid (Quiet0 w W0) := by rw [hW0]; exact Quiet0.alloc _ _
  have hz0 : W0.heap.size = w.heap.size + 1 := by rw [hW0]; simp
  obtain ⟨W1, hW1⟩ : ∃ W1, W1 = W0.alloc (.cells (cells9 h o1 l1 c1 o2 l2 c2) 29) := ⟨_, rfl⟩
  have hnew := heap_alloc_new W0 (.cells (cells9 h o1 l1 c1 o2 l2 c2) 29)
  rw [← hW1, hz0] at hnew
  have HQ1 : Hid (Quiet0 W0 W1) := by rw [hW1]; exact Quiet0.alloc _ _
  have HROW : Hid (ListN (w.heap.size + 1) W1 (some ⟨w.heap.size + 1, 0, none⟩) 1 [h] (cells9 h o1 l1 c1 o2 l2 c2).toList) := by
    refine ⟨⟨rfl, .inr ⟨w.heap.size + 1, 1, cells9 h o1 l1 c1 o2 l2 c2, rfl, Nat.zero_le _, hnew, Nat.le_refl _, by decide, rfl, rfl⟩⟩, ?_, ?_⟩
    · exact ⟨o1, l1, c1, o2, l2, c2, [], by simp, rfl⟩
    · intro k hk
      simp [Value.ownBlock] at hk
      omega
  change Code.wp _ _ _ _ ((w.alloc (.cells (cells9 h o1 l1 c1 o2 l2 c2) 29)).alloc (.cells (cells9 h o1 l1 c1 o2 l2 c2) 29))
  rw [← hW0, ← hW1]
  clear hW0 hW1 hnew
  have HZ := Lib.hid hz0
  clear hz0
  generalize hnb : w.heap.size = nb at *
  have HNB := Lib.hid hnb
  clear hnb
  go_loopw [3, 4] (fun s t wr => ∃ (i n c : Nat) (o : Option Addr) (l : List Nd) (xs : List Value), t = .int .i64 i ∧ s = .slice o n c ∧ i ≤ l2 ∧ l.length = n ∧ l ++ hds (ps.drop i) = h :: hds ps ∧ ListN (nb + 1) wr o c l xs ∧ Quiet0 W0 wr) (fun _ t _ => l2 - (intOf t).toNat)
  case atStart => exact ⟨0, 1, 1, _, [h], _, rfl, rfl, Nat.zero_le _, rfl, by rw [To.drop_zero]; rfl, HROW.out, HQ1.out⟩
  case round =>
    obtain ⟨i, n, c, o, l, xs, rfl, rfl, hi, hln, hn, hrow, hq⟩ := hrel
    have hsz2 : n + (ps.drop i).size = ps.size + 1 := by
      have := congrArg List.length hn
      simp only [List.length_append, List.length_cons, hds_length] at this
      omega
    have HLN := Lib.hid hln
    have HSZ2 := Lib.hid hsz2
    have HN := Lib.hid hn
    have HR := Lib.hid hrow
    have HQ := Lib.hid hq
    have cc := HB.out wr hq
    have hnb : n ≤ 100001 := by omega
    clear hn hrow hq hln hsz2
    by_cases hlt : i < l2
    · have hlt' : (i : Int) < l2 := by omega
      obtain ⟨b, off, hd, qs, p1, m1, d1, p2, m2, d2, rfl, hd1, hg, hRb, ⟨e0, e1, e2, e3, e4, e5, e6, e7, e8⟩, hs1, ht1⟩ := (HS.out.stay (HQ0.out.trans HQ.out)).nth hlt
      have hsq := To.size_get ps i hd qs hg
      have HC := Lib.hid (IH.out i hd qs hg wr R p1 m1 d1 p2 m2 d2 ht1 (by omega))
      have HD : Hid ((l ++ (hd :: hds qs)) ++ hds (ps.drop (i + 1)) = h :: hds ps) := by
        have := HN.out; rw [hd1, hds_cons] at this; show _ = _; rw [← this, List.append_assoc]
      have hlq : (hd :: hds qs).length = qs.size + 1 := by rw [List.length_cons, hds_length]
      have hqz : qs.size + 1 ≤ 100001 := by omega
      have HLQ := Lib.hid hlq
      unfold tmv at HC
      clear hd1 hg hs1 ht1 hsq hRb hlq
      go_wp2_with fail
      refine HC.out.mono ?_; rintro e w1 ⟨q, d, ys, rfl, hrow1, hq1⟩
      rw [HLQ.out]
      have HQ1' := Lib.hid (HQ.out.trans hq1)
      have HR1 := Lib.hid (HR.out.stay hq1)
      have HR2 := Lib.hid hrow1
      have HBZ : Hid (nb + 1 ≤ w1.heap.size) := by have := HQ1'.out.size; have := HZ.out; show _ ≤ _; omega
      have HNW : Hid (∀ j u, ys[j]? = some u → ∃ a, q = some a ∧ w1.cell? (a.add j) = some u) := by
        intro j u hu
        rcases hrow1.1.2 with ⟨_, h2⟩ | ⟨g, cap', cur, he, _⟩
        · simp at h2
        · injection he with h1 h2 h3
          subst h1
          exact ⟨_, rfl, hrow1.1.cells rfl j u hu⟩
      clear hq1 hrow1 cc
      go_wp2_with (at_builtin; (refine wpList_append_row w1 rfl (.tmp 14) (.tmp 20) 25 rfl 29 _ 9 112 elemTm (.slice o n c) n xs rfl (HLN.out ▸ HR1.out.1) q (qs.size + 1) d ys rfl (by have := HR2.out.1.1; rw [HLQ.out] at this; exact this) HNW.out (RowN.one _ _ HR2.out.2.1) (by unfold maxLen; omega) (by omega) ?_); intro o3 c3 w3 ho hf hob hnil)
      have HL3 : Hid ((l ++ (hd :: hds qs)).length = n + (qs.size + 1)) := by show _ = _; rw [List.length_append, HLN.out, HLQ.out]
      have HR3 : Hid (ListN (nb + 1) w3 o3 c3 (l ++ (hd :: hds qs)) (xs ++ ys)) := by
        refine ⟨by rw [HL3.out]; exact ho, RowN.app _ _ _ _ HR1.out.2.1 HR2.out.2.1, ?_⟩
        rw [HL3.out]
        intro k hk
        rcases hob with h | h
        · exact HR1.out.2.2 k (by rw [HLN.out, ← h]; exact hk)
        · rw [h] at hk; cases hk; exact HBZ.out
      have HQ3 : Hid (Quiet0 W0 w3) := Fr.trans' HQ1'.out hf (fun k hk hs => by have := HR1.out.2.2 k (by rw [HLN.out]; exact hs); have := HZ.out; omega)
      clear ho hf hob hnil
      go_wp2_with fail
      go_roundw
      case rel => exact ⟨i + 1, n + (qs.size + 1), c3, o3, _, xs ++ ys, by go_num, rfl, by omega, HL3.out, HD.out, HR3.out, HQ3.out⟩
      case measure => simp [intOf]; omega
    · have hlt' : ¬ (i : Int) < l2 := by omega
      have HE : Hid (l = h :: hds ps) := by
        have := HN.out
        rw [To.drop_end ps i (by have := HL.out; omega)] at this
        show _ = _
        simpa [hds, To.flat] using this
      go_wp2_with fail
      go_ret
      rw [← HE.out]
      refine ⟨o, c, xs, by rw [HLN.out]; rfl, ⟨HR.out.1, HR.out.2.1, fun k hk => by have := HR.out.2.2 k hk; have := HNB.out; omega⟩, HQ0.out.trans HQ.out⟩
end Go.Proofs.YtdlcakmjihfgfaaGreatDoor
end
section
/-
  What a byte is (small, digit, inner, blank; the reference's Letter, Digit, Inner), and how many bytes in a row are of a kind (run). No condition but that a place lies in its text.
-/
namespace Go.Proofs.YtdlcakmjihfgfaaGreatDoor.Lx
open Go.RowKit

theorem u8_beq (x : UInt8) (n : Nat) (hn : n < 256) : (x == UInt8.ofNat n) = decide (x.toNat = n) := by
  rw [Bool.eq_iff_iff, beq_iff_eq, decide_eq_true_eq]
  constructor
  · intro h; rw [h]; simp; omega
  · intro h; rw [← h]; simp
theorem u8_lt (x : UInt8) : x.toNat < 256 := x.toNat_lt
theorem small_of (x : UInt8) : smallB x = (decide ((97 : Int) ≤ (x.toNat : Int)) && decide ((x.toNat : Int) ≤ 122)) := by
  unfold smallB; congr 1 <;> (rw [Bool.eq_iff_iff]; simp; omega)
theorem digit_of (x : UInt8) : digitB x = (decide ((48 : Int) ≤ (x.toNat : Int)) && decide ((x.toNat : Int) ≤ 57)) := by
  unfold digitB; congr 1 <;> (rw [Bool.eq_iff_iff]; simp; omega)
theorem blank_of (x : UInt8) : blankB x = (((x.toNat : Int) == 32) || ((x.toNat : Int) == 9) || ((x.toNat : Int) == 10) || ((x.toNat : Int) == 13)) := by
  unfold blankB
  rw [show (32 : UInt8) = UInt8.ofNat 32 from rfl, show (9 : UInt8) = UInt8.ofNat 9 from rfl, show (10 : UInt8) = UInt8.ofNat 10 from rfl, show (13 : UInt8) = UInt8.ofNat 13 from rfl]
  rw [u8_beq _ _ (by omega), u8_beq _ _ (by omega), u8_beq _ _ (by omega), u8_beq _ _ (by omega)]
  rw [Bool.eq_iff_iff]; simp; omega
theorem under_of (x : UInt8) : (x == 95) = ((x.toNat : Int) == 95) := by
  rw [show (95 : UInt8) = UInt8.ofNat 95 from rfl, u8_beq _ _ (by omega), Bool.eq_iff_iff]; simp; omega
theorem nolf_of (x : UInt8) : nolfB x = ((x.toNat : Int) != 10) := by
  unfold nolfB
  rw [show (10 : UInt8) = UInt8.ofNat 10 from rfl, u8_beq _ _ (by omega), Bool.eq_iff_iff]; simp; omega

/-- what a function on bytes tells -/
def Tells (g : Nat) (p : UInt8 → Bool) : Prop := ∀ (x : UInt8) (w : World), Calls Tryz.prog g #[.int .u8 (x.toNat : Int)] w fun e w' => e = .returned (.bool (p x)) ∧ w = w'

theorem small_any : Tells 69 smallB := by
  intro x w
  have hb := u8_lt x
  by_cases h1 : (97 : Int) ≤ (x.toNat : Int)
  · go_enter Tryz.func69, Tryz.ntmps69
    go_wp2
    go_ret
    exact ⟨by rw [small_of]; (first | (simp [h1]; done) | (simp [h1]; omega)), rfl⟩
  · go_enter Tryz.func69, Tryz.ntmps69
    go_wp2
    go_ret
    exact ⟨by rw [small_of]; (first | (simp [h1]; done) | (simp [h1]; omega)), rfl⟩
theorem letter_any : Tells 61 smallB := by
  intro x w
  have hb := u8_lt x
  by_cases h1 : (97 : Int) ≤ (x.toNat : Int)
  · go_enter Tryz.func61, Tryz.ntmps61
    go_wp2
    go_ret
    exact ⟨by rw [small_of]; (first | (simp [h1]; done) | (simp [h1]; omega)), rfl⟩
  · go_enter Tryz.func61, Tryz.ntmps61
    go_wp2
    go_ret
    exact ⟨by rw [small_of]; (first | (simp [h1]; done) | (simp [h1]; omega)), rfl⟩
theorem digit_any : Tells 86 digitB := by
  intro x w
  have hb := u8_lt x
  by_cases h1 : (48 : Int) ≤ (x.toNat : Int)
  · go_enter Tryz.func86, Tryz.ntmps86
    go_wp2
    go_ret
    exact ⟨by rw [digit_of]; (first | (simp [h1]; done) | (simp [h1]; omega)), rfl⟩
  · go_enter Tryz.func86, Tryz.ntmps86
    go_wp2
    go_ret
    exact ⟨by rw [digit_of]; (first | (simp [h1]; done) | (simp [h1]; omega)), rfl⟩
theorem refDigit_any : Tells 82 digitB := by
  intro x w
  have hb := u8_lt x
  by_cases h1 : (48 : Int) ≤ (x.toNat : Int)
  · go_enter Tryz.func82, Tryz.ntmps82
    go_wp2
    go_ret
    exact ⟨by rw [digit_of]; (first | (simp [h1]; done) | (simp [h1]; omega)), rfl⟩
  · go_enter Tryz.func82, Tryz.ntmps82
    go_wp2
    go_ret
    exact ⟨by rw [digit_of]; (first | (simp [h1]; done) | (simp [h1]; omega)), rfl⟩
theorem inner_any : Tells 71 innerB := by
  intro x w
  have hb := u8_lt x
  cases h1 : smallB x <;> cases h2 : digitB x
  all_goals
    have H1 := Lib.hid h1
    have H2 := Lib.hid h2
    clear h1 h2
    go_enter Tryz.func71, Tryz.ntmps71
    go_wp2_with fail
    refine (small_any x _).mono ?_; rintro e w' ⟨rfl, rfl⟩
    rw [H1.out]
    go_wp2_with fail
    try (refine (digit_any x _).mono ?_; rintro e w' ⟨rfl, rfl⟩; rw [H2.out]; go_wp2_with fail)
    go_ret
    exact ⟨by unfold innerB; rw [H1.out, H2.out, under_of]; simp, rfl⟩
theorem refInner_any : Tells 60 innerB := by
  intro x w
  have hb := u8_lt x
  cases h1 : smallB x <;> cases h2 : digitB x
  all_goals
    have H1 := Lib.hid h1
    have H2 := Lib.hid h2
    clear h1 h2
    go_enter Tryz.func60, Tryz.ntmps60
    go_wp2_with fail
    refine (letter_any x _).mono ?_; rintro e w' ⟨rfl, rfl⟩
    rw [H1.out]
    go_wp2_with fail
    try (refine (refDigit_any x _).mono ?_; rintro e w' ⟨rfl, rfl⟩; rw [H2.out]; go_wp2_with fail)
    go_ret
    exact ⟨by unfold innerB; rw [H1.out, H2.out, under_of]; simp, rfl⟩

theorem drop_byte (s : ByteArray) (k : Nat) (h : k < s.size) : s.data.toList.drop k = s[k] :: s.data.toList.drop (k + 1) := by
  rw [List.drop_eq_getElem_cons (by simpa using h)]; rfl
theorem drop_end (s : ByteArray) (k : Nat) (h : s.size ≤ k) : s.data.toList.drop k = [] := by
  rw [List.drop_eq_nil_iff]; simpa using h
theorem runL_cons (p : UInt8 → Bool) (c : UInt8) (r : List UInt8) : runL p (c :: r) = if p c then runL p r + 1 else 0 := rfl
theorem bytes_length (s : ByteArray) : s.data.toList.length = s.size := by simp

set_option maxHeartbeats 1000000 in
theorem run_any (g : Nat) (p : UInt8 → Bool) (eg : ∀ args w, (callFunc g args).run Tryz.prog w = .ok (.enter g args) w) (hp : Tells g p) (s : ByteArray) (k : Nat) (ki : Int) (ek : ki = k) (hk : k ≤ s.size) (hs : s.size ≤ maxLen) (w : World) :
    Calls Tryz.prog 70 #[.string s, .int .i64 ki, .func (.func g) #[] #[]] w fun e w' => e = .returned (.int .i64 (runL p (s.data.toList.drop k) : Nat)) ∧ w = w' := by
  subst ek
  unfold maxLen at hs
  have HP := Lib.hid hp
  clear hp
  go_enter Tryz.func70, Tryz.ntmps70
  go_wp2
  go_loop [7] (fun t => ∃ n : Nat, t = .int .i64 n ∧ k + n ≤ s.size ∧ runL p (s.data.toList.drop k) = n + runL p (s.data.toList.drop (k + n))) (fun t => s.size - k - (intOf t).toNat)
  case atStart => exact ⟨0, rfl, by omega, by simp⟩
  case round =>
    obtain ⟨n, rfl, hn, he⟩ := hrel
    have HE := Lib.hid he
    clear he
    by_cases hlt : k + n < s.size
    · have hd := Lib.hid (drop_byte s (k + n) hlt)
      have hlt' : (k : Int) + n < s.size := by omega
      cases hx : p s[k + n]
      all_goals
        have HX := Lib.hid hx
        clear hx
        go_wp2_with fail
        have HPX := HP.out s[k + n] w
        rw [HX.out] at HPX
        refine HPX.mono ?_; rintro e w' ⟨rfl, rfl⟩
        clear HPX
        go_wp2
      · go_ret
        refine ⟨?_, rfl⟩
        rw [HE.out, hd.out, runL_cons, HX.out]; rfl
      · go_round
        case rel =>
          refine ⟨n + 1, by go_num, by omega, ?_⟩
          rw [HE.out, hd.out, runL_cons, HX.out]
          simp only [if_true]
          rw [show k + (n + 1) = k + n + 1 from by omega]; omega
        case measure => simp [intOf]; omega
    · have hd := Lib.hid (drop_end s (k + n) (by omega))
      have hlt' : ¬ (k : Int) + n < s.size := by omega
      go_wp2
      go_ret
      refine ⟨?_, rfl⟩
      rw [HE.out, hd.out]; rfl
end Go.Proofs.YtdlcakmjihfgfaaGreatDoor.Lx
end
section
/-
  Whether a text is one of the words: the program's Keyword and the reference's. Condition: strings.asciiSpace holds what its initialiser lays.
-/
namespace Go.Proofs.YtdlcakmjihfgfaaGreatDoor.Lx
open Go.RowKit

abbrev Spaces (w : World) : Prop := Lib.TabIs Tryz.prog w "strings.asciiSpace" .u8 Lib.asciiSpaceTab
theorem Spaces.stay {w w' : World} (h : Spaces w) (hq : Quiet0 w w') : Spaces w' := by
  have hg : Tryz.prog.globalNamed "strings.asciiSpace" = some 2 := by kernel_rfl
  exact Joins.tab_stays hg h hq.below (Nat.le_refl _)

def toBA (l : List UInt8) : ByteArray := ⟨l.toArray⟩
theorem toBA_toList (l : List UInt8) : (toBA l).data.toList = l := rfl
theorem toBA_of (s : ByteArray) : toBA s.data.toList = s := by cases s; rfl
theorem ba_ext {a b : ByteArray} (h : a.data.toList = b.data.toList) : a = b := by rw [← toBA_of a, ← toBA_of b, h]

def wordsText : ByteArray := ⟨#[32, 102, 117, 110, 32, 108, 101, 116, 32, 114, 101, 99, 32, 105, 110, 32, 105, 102, 32, 116, 104, 101, 110, 32, 101, 108, 115, 101, 32, 116, 114, 117, 101, 32, 102, 97, 108, 115, 101, 32, 105, 110, 116, 32, 98, 111, 111, 108, 32]⟩
theorem fields_words : Lib.fields wordsText.data.toList = kws := by decide +kernel
theorem ascii_words : ∀ (j : Nat) (b : UInt8), wordsText.data.toList[j]? = some b → b.toNat < 128 := by
  have h : ∀ b ∈ wordsText.data.toList, b.toNat < 128 := by decide +kernel
  intro j b hb
  exact h b (List.mem_of_getElem? hb)
theorem kw_contains (s : ByteArray) : Lib.containsS (kws.map toBA) s = kwB s.data.toList := by
  rw [Bool.eq_iff_iff, Lib.containsS_iff]
  unfold kwB
  rw [List.contains_iff_mem, List.mem_map]
  constructor
  · rintro ⟨l, hl, rfl⟩; exact hl
  · intro h; exact ⟨_, h, toBA_of s⟩
theorem kws_cells (w : World) (j : Nat) (hj : j < (kws.map toBA).length) : (w.alloc (.cells (kws.map fun l => Value.string ⟨l.toArray⟩).toArray 9)).cell? ⟨w.heap.size, 0 + j, none⟩ = some (.string ((kws.map toBA).getD j ByteArray.empty)) := by
  rw [cell_of_row _ _ _ _ _ (0, 0) (heap_alloc_new w _)]
  have hj' : j < kws.length := by simpa using hj
  simp only [Nat.zero_add, List.getElem?_toArray, List.getElem?_map, List.getD_eq_getElem?_getD]
  rw [List.getElem?_eq_getElem hj']; rfl

set_option maxHeartbeats 1000000 in
theorem keyword_any (s : ByteArray) (w : World) (ht : Spaces w) : Calls Tryz.prog 72 #[.string s] w fun e w' => e = .returned (.bool (kwB s.data.toList)) ∧ Quiet0 w w' := by
  have hF := Tryz.strings_Fields wordsText w (by decide) ascii_words ht
  rw [fields_words] at hF
  have hC := Tryz.slices_Contains_string w.heap.size 0 11 11 (kws.map toBA) s (w.alloc (.cells (kws.map fun l => Value.string ⟨l.toArray⟩).toArray 9)) (by decide) (by decide) (kws_cells w)
  rw [List.take_of_length_le (by decide), kw_contains] at hC
  have HF := Lib.hid hF
  have HC := Lib.hid hC
  clear hF hC ht
  generalize hA : (kws.map fun l => Value.string ⟨l.toArray⟩).toArray = A at *
  have HA := Lib.hid hA
  clear hA
  go_enter Tryz.func72, Tryz.ntmps72
  go_wp2_with fail
  refine HF.out.mono ?_; rintro e w' ⟨rfl, rfl⟩
  go_wp2_with fail
  refine HC.out.mono ?_; rintro e w' ⟨rfl, rfl⟩
  go_wp2
  go_ret
  exact ⟨rfl, Quiet0.alloc _ _⟩

theorem kw_at (j : Nat) (hj : j < 11) : (kws.getD j []) ∈ kws := by
  rw [List.getD_eq_getElem?_getD, List.getElem?_eq_getElem (by exact hj)]; exact List.getElem_mem _
set_option maxHeartbeats 1000000 in
set_option maxRecDepth 100000 in
theorem refKeyword_any (s : ByteArray) (w : World) : Calls Tryz.prog 62 #[.string s] w fun e w' => e = .returned (.bool (kwB s.data.toList)) ∧ Quiet0 w w' := by
  go_enter Tryz.func62, Tryz.ntmps62
  go_wp2
  have hcell : ∀ j, j < 11 → (w.alloc (.cells (kws.map fun l => Value.string ⟨l.toArray⟩).toArray 9)).cell? ⟨w.heap.size, j, none⟩ = some (.string (toBA (kws.getD j []))) := by
    intro j hj
    have := kws_cells w j (by exact hj)
    simp only [Nat.zero_add] at this
    rw [this]
    congr 2
    simp only [List.getD_eq_getElem?_getD, List.getElem?_map]
    rw [List.getElem?_eq_getElem (by exact hj)]; rfl
  have HCELL := Lib.hid hcell
  clear hcell
  obtain ⟨W, hW⟩ : ∃ W, W = w.alloc (.cells (kws.map fun l => Value.string ⟨l.toArray⟩).toArray 9) := ⟨_, rfl⟩
  have HQ : Hid (Quiet0 w W) := by rw [hW]; exact Quiet0.alloc _ _
  rw [← hW] at HCELL
  change Code.wp _ _ _ _ (w.alloc (.cells (kws.map fun l => Value.string ⟨l.toArray⟩).toArray 9))
  rw [← hW]
  clear hW
  generalize w.heap.size = b at *
  go_loop [4] (fun t => ∃ n : Nat, t = .int .i64 n ∧ n ≤ 11 ∧ kwB s.data.toList = (kws.drop n).contains s.data.toList) (fun t => 11 - (intOf t).toNat)
  case atStart => exact ⟨0, rfl, by omega, rfl⟩
  case round =>
    obtain ⟨n, rfl, hn, he⟩ := hrel
    have HE := Lib.hid he
    clear he
    by_cases hlt : n < 11
    · have c := HCELL.out n hlt
      have hd : kws.drop n = kws.getD n [] :: kws.drop (n + 1) := by
        rw [List.drop_eq_getElem_cons (by exact hlt), List.getD_eq_getElem?_getD, List.getElem?_eq_getElem (by exact hlt)]; rfl
      have HD := Lib.hid hd
      clear hd
      have hlt' : (n : Int) < 11 := by omega
      generalize kws.getD n [] = x at *
      cases hx : ((toBA x).toList == s.toList)
      · have hx' : (s.data.toList == x) = false := by
          rw [beq_eq_false_iff_ne] at hx ⊢
          intro h; apply hx; rw [ByteArray.toList_eq, ByteArray.toList_eq, toBA_toList, h]
        have HX' := Lib.hid hx'
        clear hx'
        go_wp2
        go_round
        case rel => exact ⟨n + 1, by go_num, by omega, by rw [HE.out, HD.out, List.contains_cons, HX'.out]; rfl⟩
        case measure => simp [intOf]; omega
      · have hx' : s.data.toList = x := by
          rw [beq_iff_eq] at hx
          rw [ByteArray.toList_eq, ByteArray.toList_eq, toBA_toList] at hx
          exact hx.symm
        have HX' := Lib.hid hx'
        clear hx'
        go_wp2
        go_ret
        exact ⟨by rw [HE.out, HD.out, List.contains_cons, HX'.out]; simp, HQ.out⟩
    · have hn11 : n = 11 := by omega
      subst hn11
      go_wp2
      go_ret
      exact ⟨by rw [HE.out]; rfl, HQ.out⟩
theorem eg_inner : ∀ args w, (callFunc 71 args).run Tryz.prog w = .ok (.enter 71 args) w := enters_of Tryz.func71 (by kernel_rfl) rfl
end Go.Proofs.YtdlcakmjihfgfaaGreatDoor.Lx
end
