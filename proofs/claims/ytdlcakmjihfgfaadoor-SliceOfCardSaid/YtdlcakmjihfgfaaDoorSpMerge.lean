/-
  span.Merge. Conditions: the spans lie in memory as told; there are few.
-/
import Derived.Test.YtdlcakmjihfgfaaDoorSpSort
import Derived.Test.YtdlcakmjihfgfaaDoorApp
import Derived.Deep.QuietTactic
import Derived.IntWalk
namespace Go.Proofs.YtdlcakmjihfgfaaDoor
open Go.RowKit Go.Shelf SpanPlain

theorem flat_news {R : Nat → Prop} {w : World} {o : Option Addr} {l : List Sp} (h : SpAt R w o l) : ∀ (j : Nat) (u : Value), (flat l)[j]? = some u → ∃ a, o = some a ∧ w.cell? (a.add j) = some u := by
  intro j u hu
  have hj : j < l.length * 2 := by
    have := (List.getElem?_eq_some_iff.1 hu).1
    rw [flat_length] at this; exact this
  have hk : j / 2 < l.length := by omega
  obtain ⟨b, off, h0, _, h2, h3⟩ := h (j / 2) _ (List.getElem?_eq_getElem hk)
  have k2 := flat_get l (j / 2) _ (List.getElem?_eq_getElem hk)
  refine ⟨_, h0, ?_⟩
  rw [Addr.add_lit]
  rcases Nat.mod_two_eq_zero_or_one j with e | e
  · have e' : j / 2 * 2 = j := by omega
    rw [e'] at k2 h2
    rw [k2.1] at hu; cases hu; exact h2
  · have e' : j / 2 * 2 + 1 = j := by omega
    have e'' : off + j / 2 * 2 + 1 = off + j := by omega
    rw [e'] at k2
    rw [e''] at h3
    rw [k2.2] at hu; cases hu; exact h3
theorem flat_one (l : List Sp) : ∀ u ∈ flat l, u.oneCell' = true := by
  intro u hu
  simp only [flat, List.mem_flatMap, sp2] at hu
  obtain ⟨t, _, h⟩ := hu
  simp at h
  rcases h with rfl | rfl <;> rfl
theorem flat_app (a b : List Sp) : flat (a ++ b) = flat a ++ flat b := by simp [flat]
theorem SpRow.form {w : World} {B : Nat} {v : Value} {l : List Sp} (h : SpRow w B v l) : ∃ o c, v = .slice o l.length c ∧ l.length ≤ maxLen := by
  rcases h.own.2 with ⟨h1, h2⟩ | ⟨g, cap, cur, rfl, h2, h3, h4, h5, _⟩
  · have e : l = [] := List.eq_nil_of_length_eq_zero h2
    subst e
    exact ⟨none, 0, h1, Nat.zero_le _⟩
  · exact ⟨_, cap, rfl, Nat.le_trans h4 h5⟩
/-- what Merge gives back -/
def SpPost (w : World) (l : List Sp) (e : Ending) (w' : World) : Prop := ∃ v, e = .returned v ∧ SpRow w' w.heap.size v l ∧ Quiet0 w w'
theorem deleteS_nil (w : World) : Calls Tryd.prog 50 #[.slice none 0 0, .func (.func 47) #[] #[]] w fun e w' => e = .returned (.slice none 0 0) ∧ Quiet0 w w' := by
  have HC := Lib.hid (indexS_any 47 #[] noS (enters_of Tryd.func47 (by kernel_rfl) rfl) [] none 0 w (fun _ => True) (SpAt.nil _ _ _) (fun t _ W _ => noneS_any t.1 t.2 W) (by simp))
  have e : idxS noS [] 0 = -1 := rfl
  rw [e] at HC
  clear e
  go_enter Tryd.func50, Tryd.ntmps50
  go_wp2_with fail
  refine HC.out.mono ?_; rintro e w1 ⟨rfl, hq⟩
  go_wp2_with fail
  go_ret
  exact ⟨rfl, hq⟩
theorem insertion_nil (p : Option Addr) (cap : Nat) (fv : Value) (w : World) : Calls Tryd.prog 73 #[.slice p 0 cap, .int .i64 0, .int .i64 0, fv] w fun e w' => e = .returned (.tuple #[]) ∧ w = w' := by
  go_enter Tryd.func73, Tryd.ntmps73
  go_wp2
  refine wp_loop_rounds 1 ?_
  rw [rounds_succ]
  go_wp2
  go_end0
  exact ⟨rfl, rfl⟩
set_option maxHeartbeats 2000000 in
set_option maxRecDepth 100000 in
theorem pdq_nil (p : Option Addr) (cap : Nat) (lim : Int) (fv : Value) (w : World) : Calls Tryd.prog 66 #[.slice p 0 cap, .int .i64 0, .int .i64 0, .int .i64 lim, fv] w fun e w' => e = .returned (.tuple #[]) ∧ w = w' := by
  go_enter Tryd.func66, Tryd.ntmps66
  go_wp2
  refine wp_loop_rounds 1 ?_
  rw [rounds_succ]
  go_wp2_with (go_at_call 73; refine (insertion_nil _ _ _ _).mono ?_; rintro e w' ⟨rfl, rfl⟩)
  (try simp only [Exit.inBlock, Exit.then]); refine bodyPost_ret (results_none rfl _ _ _) rfl ?_
  exact ⟨rfl, rfl⟩
theorem sortS_nil (fv : Value) (w : World) : Calls Tryd.prog 51 #[.slice none 0 0, fv] w fun e w' => e = .returned (.tuple #[]) ∧ w = w' := by
  have hl : ∀ W, Calls Tryd.prog 67 #[.int .u64 0] W fun e w' => e = .returned (.int .i64 (Lib.bitLen 0 : Nat)) ∧ W = w' := fun W => (Tryd.bits_Len 0 W (by omega) (by omega)).mono fun _ _ h => ⟨h.1, h.2.symm⟩
  generalize ((Lib.bitLen 0 : Nat) : Int) = r at hl
  go_enter Tryd.func51, Tryd.ntmps51
  go_wp2_with (first | (go_at_call 67; refine (hl _).mono ?_; rintro e w' ⟨rfl, rfl⟩) | (go_at_call 66; refine (pdq_nil _ _ _ _ _).mono ?_; rintro e w' ⟨rfl, rfl⟩))
  go_end0
  exact ⟨rfl, rfl⟩
theorem SpRow.some {w : World} {B n c : Nat} {o : Option Addr} {l : List Sp} (h : SpRow w B (.slice o n c) l) (hn : 0 < l.length) : ∃ g, o = some ⟨g, 0, none⟩ := by
  rcases h.own.2 with ⟨h1, h2⟩ | ⟨g, cap, cur, he, _⟩
  · omega
  · injection he with e1 e2 e3; exact ⟨g, e1⟩
theorem mstep_none {o : List Sp} {s : Sp} (h : o.getLast? = none) : mstep o s = o ++ [s] := by unfold mstep; rw [h]
theorem mstep_far {o : List Sp} {s t : Sp} (h : o.getLast? = some t) (ht : ¬ s.1 ≤ t.2) : mstep o s = o ++ [s] := by unfold mstep; rw [h]; simp [ht]
theorem mstep_near {o : List Sp} {s t : Sp} (h : o.getLast? = some t) (ht : s.1 ≤ t.2) : mstep o s = o.set (o.length - 1) (t.1, max t.2 s.2) := by
  have hs := getLast?_split h
  have e : mstep o s = o.dropLast ++ [(t.1, max t.2 s.2)] := by unfold mstep; rw [h]; simp [ht]
  rw [e]
  generalize o.dropLast = d at hs
  subst hs
  rw [List.length_append, List.length_singleton, Nat.add_sub_cancel, List.set_append_right _ _ (Nat.le_refl _), Nat.sub_self]; rfl
set_option maxRecDepth 100000 in
set_option maxHeartbeats 4000000 in
theorem merge_any (l : List Sp) (o : Option Addr) (cap : Nat) (w : World) (R : Nat → Prop) (hs : SpAt R w o l) (hz : l.length ≤ 100000) :
    Calls Tryd.prog 35 #[.slice o l.length cap] w (SpPost w (rmerge l)) := by
  have HS := Lib.hid hs
  clear hs
  by_cases hl0 : l = []
  · subst hl0
    have HR : Hid (rmerge [] = []) := rfl
    rw [HR.out]
    go_enter Tryd.func35, Tryd.ntmps35
    go_wp2_with (at_builtin; refine wpList_append_row w rfl (.const (.slice none 0 0)) (.tmp 7) 22 rfl 41 _ 2 16 elemSp (.slice none 0 0) 0 [] rfl (World.ownsRow_nil _ _ _ _) o 0 cap [] rfl rfl (fun j u hu => by simp at hu) (fun u hu => by simp at hu) (by unfold maxLen; omega) (by omega) ?_; intro o1 c1 w1 ho hf hob hnil)
    have HF := Lib.hid hf
    have he1 : Value.slice o1 0 c1 = .slice none 0 0 := by simpa using hnil
    rw [he1]
    clear ho hf hob hnil he1
    go_wp2_with fail
    refine (deleteS_nil _).mono ?_; rintro e w2 ⟨rfl, hq⟩
    have HQ : Hid (Quiet0 w w2) := Lib.hid ((Fr.mono HF.out (fun k hk h => by simp [Value.ownBlock] at h)).trans hq)
    clear hq
    go_wp2_with fail
    refine (sortS_nil _ _).mono ?_; rintro e w3 ⟨rfl, rfl⟩
    go_wp2_with fail
    refine wp_loop_rounds 1 ?_
    rw [rounds_succ]
    go_wp2_with fail
    go_ret
    exact ⟨_, rfl, SpRow.nil _ _, HQ.out⟩
  · have hlp : 0 < l.length := List.length_pos_iff.2 hl0
    obtain ⟨res, hres⟩ : ∃ res, rmerge l = res := ⟨_, rfl⟩
    have HRES := Lib.hid hres
    rw [hres]
    clear hres
    go_enter Tryd.func35, Tryd.ntmps35
    go_wp2_with (at_builtin; refine wpList_append_row w rfl (.const (.slice none 0 0)) (.tmp 7) 22 rfl 41 _ 2 16 elemSp (.slice none 0 0) 0 [] rfl (World.ownsRow_nil _ _ _ _) o l.length cap (flat l) rfl (flat_length l) (flat_news HS.out) (flat_one l) (by unfold maxLen; omega) (by omega) ?_; intro o1 c1 w1 ho hf hob hnil)
    simp only [Nat.zero_add, List.nil_append] at ho hob
    have hrow : SpRow w1 w.heap.size (.slice o1 l.length c1) l := ⟨ho, fun k hk => by rcases hob with h | h <;> (rw [hk] at h; simp [Value.ownBlock] at h); omega⟩
    have HF : Hid (Quiet0 w w1) := Lib.hid (Fr.mono hf (fun k hk h => by simp [Value.ownBlock] at h))
    obtain ⟨b, rfl⟩ := hrow.some hlp
    have hbl := hrow.blk
    have hsb := hbl.1
    have hBb := hbl.2.1
    clear ho hf hob hnil hrow hbl
    have HD := Lib.hid (deleteS_any l b c1 w1 hsb (by omega))
    clear hsb
    have hfl : (l.filter neS).length ≤ l.length := List.length_filter_le _ _
    go_wp2_with fail
    refine HD.out.mono ?_; rintro e w2 ⟨rfl, hsb2, hf2⟩
    have HSO := Lib.hid (sortS_any (l.filter neS) b c1 w2 hsb2 (by omega))
    have HF2 : Hid (Quiet0 w w2) := Lib.hid (Fr.trans' HF.out hf2 (fun k hk h => by omega))
    clear hsb2 hf2 HD
    go_wp2_with fail
    refine HSO.out.mono ?_; rintro e w3 ⟨rfl, l2, hp, hpw, hsb3, hf3⟩
    have HF3 : Hid (Quiet0 w w3) := Lib.hid (Fr.trans' HF2.out hf3 (fun k hk h => by omega))
    rw [← hp.length_eq]
    have hl2 : l2.length ≤ l.length := by rw [hp.length_eq]; exact hfl
    have HM : Hid (l2.foldl mstep [] = res) := by
      show _ = _
      rw [← HRES.out]
      refine merge_same l l2 (fun s hs' => ?_) hpw (fun s => ?_)
      · have := (hp.mem_iff.1 hs'); simp [List.mem_filter] at this; exact this.2
      · rw [hp.mem_iff]; simp [List.mem_filter]
    have HSB := Lib.hid hsb3
    have hb3 := hsb3.lt
    clear hp hpw hsb3 hf3 HSO hfl HF HF2
    go_wp2_with fail
    go_loopw [3, 14] (fun v t wr => ∃ (i : Nat) (out : List Sp), t = .int .i64 i ∧ i ≤ l2.length ∧ SpRow wr w3.heap.size v out ∧ (l2.drop i).foldl mstep out = res ∧ out.length ≤ i ∧ Quiet0 w3 wr) (fun _ t _ => l2.length - (intOf t).toNat)
    case atStart => exact ⟨0, [], rfl, Nat.zero_le _, SpRow.nil _ _, HM.out, Nat.zero_le _, Quiet0.refl _⟩
    case round =>
      obtain ⟨i, out, rfl, hi, hrow, hr, hoi, hq⟩ := hrel
      have HROW := Lib.hid hrow
      have HR := Lib.hid hr
      have HQ := Lib.hid hq
      obtain ⟨vo, vc, rfl, hmx⟩ := hrow.form
      have HSBR := Lib.hid (HSB.out.stay hq)
      clear hr hq
      by_cases hlt : i < l2.length
      · have hlt' : (i : Int) < l2.length := by omega
        obtain ⟨s, hsi⟩ : ∃ s, l2[i]? = some s := ⟨_, List.getElem?_eq_getElem hlt⟩
        obtain ⟨x, y⟩ := s
        obtain ⟨a0, a1, _, _⟩ := HSBR.out.at hsi
        have HDR := Lib.hid (sp_drop hsi)
        obtain ⟨W0, hW0⟩ : ∃ W0, W0 = wr.alloc (.cells #[.int .i64 x, .int .i64 y] 41) := ⟨_, rfl⟩
        have hq0 : Quiet0 wr W0 := by rw [hW0]; exact Quiet0.alloc _ _
        have b0 : W0.cell? ⟨wr.heap.size, 0, none⟩ = some (.int .i64 x) := by
          rw [hW0, cell_of_row _ _ _ _ _ (0, 0) (heap_alloc_new wr _)]; rfl
        have b1 : W0.cell? ⟨wr.heap.size, 1, none⟩ = some (.int .i64 y) := by
          rw [hW0, cell_of_row _ _ _ _ _ (0, 0) (heap_alloc_new wr _)]; rfl
        have HQ0 := Lib.hid hq0
        clear hsi hrow
        generalize hn : out.length = n at *
        have HNL := Lib.hid hn
        have HOW : Hid (∀ W, Quiet0 wr W → W.ownsRow 0 41 2 (.slice vo n vc) n (flat out)) := by
          intro W hq
          have := (HROW.out.stay hq).own
          rw [hn] at this; exact this
        cases hgl : out.getLast? with
        | none =>
          have HN : Hid (mstep out (x, y) = out ++ [(x, y)]) := Lib.hid (mstep_none hgl)
          have hn0 : n = 0 := by rw [← hn]; rw [List.getLast?_eq_none_iff] at hgl; rw [hgl]; rfl
          have hd0 : decide (0 < n) = false := by rw [hn0]; rfl
          clear hgl hn hn0
          go_upto_region 7 with fail
          rw [← hW0]
          clear hW0 a0 a1
          go_wp2_with fail
          go_quiet (fail)
          go_wp2_with (at_builtin; refine wpList_append_one _ rfl (.tmp 47) (.tmp 49) 22 rfl 41 _ 2 16 elemSp (.slice vo n vc) n (flat out) rfl (HOW.out _ (HQ0.out.trans (Quiet0.drewN _ _))) #[.int .i64 x, .int .i64 y] rfl rfl (by simp [Value.oneCell']) (by unfold maxLen; omega) (by omega) ?_; intro g c' w2 ho hf hg)
          have HR2 : Hid (SpRow w2 w3.heap.size (.slice (some ⟨g, 0, none⟩) (n + 1) c') (out ++ [(x, y)])) := by
            show SpRow _ _ _ _
            have hrw := HROW.out.stay (HQ0.out.trans (Quiet0.drewN _ nq))
            rw [← HNL.out] at ho ⊢
            refine SpRow.snoc (x := x) (y := y) hrw ho ?_ ?_
            · exact hg
            · exact Nat.le_trans HQ.out.size (HQ0.out.trans (Quiet0.drewN _ nq)).size
          have HQ2 : Hid (Quiet0 w3 w2) := Lib.hid (Fr.trans' (HQ.out.trans (HQ0.out.trans (Quiet0.drewN _ nq))) hf (fun kk hkk h => by have := HROW.out.low kk h; omega))
          clear ho hf hg
          go_wp2_with fail
          go_roundw
          case rel => exact ⟨i + 1, out ++ [(x, y)], by go_num, by omega, HR2.out, by rw [← HN.out, ← HR.out, HDR.out]; rfl, by rw [List.length_append, HNL.out, List.length_singleton]; omega, HQ2.out⟩
          case measure => simp [intOf]; omega
        | some t =>
          have hnp : 0 < n := by rcases Nat.eq_zero_or_pos n with h | h; · rw [← hn, List.length_eq_zero_iff] at h; rw [h] at hgl; cases hgl
                                 · exact h
          obtain ⟨k, hk⟩ : ∃ k, n = k + 1 := ⟨n - 1, by omega⟩
          have HK := Lib.hid hk
          have hgk : out[k]? = some t := by rw [List.getLast?_eq_getElem?, hn, hk] at hgl; exact hgl
          have hd0 : decide (0 < n) = true := by simp; omega
          have hkn : (k : Int) < (n : Int) := by omega
          have hkn' : k < n := by omega
          have hmx' := hmx
          unfold maxLen at hmx'
          have hw : IntKind.i64.wrap ((n : Int) - 1) = (k : Int) := by rw [IntWalk.i64_in _ (by omega)]; omega
          obtain ⟨gb, rfl⟩ := HROW.out.some (by omega)
          obtain ⟨hb0, hb1, hbx⟩ := HROW.out.blk
          clear hbx
          have HB0 := Lib.hid (hb0.stay HQ0.out)
          obtain ⟨e0, e1, e2, e3⟩ := HB0.out.at hgk
          obtain ⟨tx, ty⟩ := t
          have HGK := Lib.hid hgk
          clear hgk
          by_cases hxt : x ≤ ty
          · have HN : Hid (mstep out (x, y) = out.set k (tx, max ty y)) := by
              show _ = _
              rw [mstep_near hgl hxt, hn, hk]; rfl
            clear hgl hn hk hb0
            go_upto_region 7 with fail
            rw [← hW0]
            clear hW0 a0 a1
            go_wp2_with fail
            go_quiet (fail)
            go_wp2_with fail
            refine wp_region_still_tail 14 (by kernel_rfl) (by kernel_rfl) ?_
            simp only [List.take_succ_cons, List.take_zero, List.drop_succ_cons, List.drop_zero]
            change wpStill _ _ (World.drew (W0.drewN nq)) _ _ _
            repeat still_step
            refine wpStill_nil ?_
            change wpList _ _ _ _ _ (World.drew (W0.drewN nq))
            go_wp2_with fail
            go_roundw
            case rel =>
              have hb' := ((HB0.out.stay (Quiet0.drewN _ (nq + 1))).set1 (y := max ty y) HGK.out).row hb1
              rw [List.length_set, HNL.out] at hb'
              refine ⟨i + 1, _, by go_num, by omega, hb', by rw [← HN.out, ← HR.out, HDR.out]; rfl, by rw [List.length_set, HNL.out]; omega, ?_⟩
              exact Fr.trans' (HQ.out.trans (HQ0.out.trans (Quiet0.drewN _ (nq + 1)))) (Fr.setCell (fun k => k = gb) _ ⟨gb, k * 2 + 1, none⟩ _ rfl) (fun kk hkk h => by omega)
            case measure => simp [intOf]; omega
          · have HN : Hid (mstep out (x, y) = out ++ [(x, y)]) := Lib.hid (mstep_far hgl hxt)
            clear hgl hn hk hb0
            go_upto_region 7 with fail
            rw [← hW0]
            clear hW0 a0 a1
            go_wp2_with fail
            go_quiet (fail)
            go_wp2_with (at_builtin; refine wpList_append_one _ rfl (.tmp 47) (.tmp 49) 22 rfl 41 _ 2 16 elemSp (.slice (some ⟨gb, 0, none⟩) n vc) n (flat out) rfl (HOW.out _ (HQ0.out.trans (Quiet0.drewN _ _))) #[.int .i64 x, .int .i64 y] rfl rfl (by simp [Value.oneCell']) (by unfold maxLen; omega) (by omega) ?_; intro g c' w2 ho hf hg)
            have HR2 : Hid (SpRow w2 w3.heap.size (.slice (some ⟨g, 0, none⟩) (n + 1) c') (out ++ [(x, y)])) := by
              show SpRow _ _ _ _
              have hrw := HROW.out.stay (HQ0.out.trans (Quiet0.drewN _ nq))
              rw [← HNL.out] at ho ⊢
              refine SpRow.snoc (x := x) (y := y) hrw ho ?_ ?_
              · exact hg
              · exact Nat.le_trans HQ.out.size (HQ0.out.trans (Quiet0.drewN _ nq)).size
            have HQ2 : Hid (Quiet0 w3 w2) := Lib.hid (Fr.trans' (HQ.out.trans (HQ0.out.trans (Quiet0.drewN _ nq))) hf (fun kk hkk h => by have := HROW.out.low kk h; omega))
            clear ho hf hg
            go_wp2_with fail
            go_roundw
            case rel => exact ⟨i + 1, out ++ [(x, y)], by go_num, by omega, HR2.out, by rw [← HN.out, ← HR.out, HDR.out]; rfl, by rw [List.length_append, HNL.out, List.length_singleton]; omega, HQ2.out⟩
            case measure => simp [intOf]; omega
      · have hlt' : ¬ (i : Int) < l2.length := by omega
        have hfin : out = res := by have := HR.out; rw [List.drop_of_length_le (by omega)] at this; exact this
        have HFIN := Lib.hid hfin
        clear hfin
        go_wp2_with fail
        go_ret
        refine ⟨_, rfl, ?_, HF3.out.trans HQ.out⟩
        rw [← HFIN.out]
        exact ⟨HROW.out.own, fun k hk => Nat.le_trans HF3.out.size (HROW.out.low k hk)⟩
theorem rins_length (s : Sp) (r : List Sp) : (rins s r).length = r.length + 1 := by
  unfold rins
  have := congrArg List.length (List.takeWhile_append_dropWhile (p := fun t : Sp => decide (t.1 < s.1)) (l := r))
  simp only [List.length_append, List.length_singleton] at *
  omega
theorem absorb_length (o : List Sp) : ∀ p : Sp × List Sp, (o.foldl absorb p).2.length ≤ p.2.length + o.length := by
  induction o with
  | nil => intro p; simp
  | cons t o ih =>
    intro p
    rw [List.foldl_cons]
    have := ih (absorb p t)
    have h2 : (absorb p t).2.length ≤ p.2.length + 1 := by unfold absorb; split <;> simp
    simp only [List.length_cons]
    omega
theorem rmerge_length (l : List Sp) : (rmerge l).length ≤ l.length := by
  have key : ∀ (l : List Sp) (o : List Sp), (l.foldl rstep o).length ≤ o.length + l.length := by
    intro l
    induction l with
    | nil => intro o; simp
    | cons s l ih =>
      intro o
      rw [List.foldl_cons]
      have h1 := ih (rstep o s)
      have h2 : (rstep o s).length ≤ o.length + 1 := by
        unfold rstep
        split
        · omega
        · rw [rins_length]
          have := absorb_length o (s, [])
          simp only [List.length_nil] at this
          omega
      simp only [List.length_cons]
      omega
  have := key l []
  simpa [rmerge] using this
end Go.Proofs.YtdlcakmjihfgfaaDoor
