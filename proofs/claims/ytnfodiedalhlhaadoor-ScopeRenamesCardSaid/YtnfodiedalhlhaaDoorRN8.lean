/-
  Texts laid together (TyVars2, TyCanon): laws and walks, with their conditions in their statements.
-/
import Derived.Test.YtnfodiedalhlhaaDoorRN7
section
namespace Go.Proofs.YtnfodiedalhlhaaDoor
open Go.RowKit Go.Maps
theorem At.lt {w : World} : ∀ (f : Fo) (b off : Nat), At w b off f → AtIn (fun k => k < w.heap.size) w b off f
  | .nil, _, _, _ => trivial
  | .cons k n ps r, b, off, h => by
    obtain ⟨h1, h2, ⟨o, len, cap, h3, h4, h4', h5⟩, h6⟩ := h
    refine ⟨World.block_lt_of_cell? w _ h1, h1, h2, ⟨o, len, cap, h3, h4, h4', fun hl => ?_⟩, At.lt r b (off + 3) h6⟩
    obtain ⟨b', off', ho, ha⟩ := h5 hl
    exact ⟨b', off', ho, At.lt ps b' off' ha⟩
theorem Slc.lt {w : World} {o : Option Addr} {len : Nat} {f : Fo} (h : Slc w o len f) : SlcIn (fun k => k < w.heap.size) w o len f := by
  refine ⟨h.1, h.2.1, fun hl => ?_⟩
  obtain ⟨b, off, ho, ha⟩ := h.2.2 hl
  exact ⟨b, off, ho, At.lt f b off ha⟩
theorem eg_vars : ∀ args w, (callFunc 120 args).run Tryd.prog w = .ok (.enter 120 args) w := enters_of Tryd.func120 (by kernel_rfl) rfl
def IntRow (B : Nat) (w : World) (vo : Value) (l : List Int) : Prop := w.ownsRow 0 3 1 vo l.length (ints l) ∧ ∀ g, vo.ownBlock = some g → B ≤ g
theorem vars_cons (k n : Int) (ps r : Fo) (l : List Int) : Fo.vars l (.cons k n ps r) = Fo.vars (Fo.vars (varStep l k n ps) ps) r := rfl
set_option maxHeartbeats 2000000 in
set_option maxRecDepth 100000 in
theorem vars_any (f : Fo) (w : World) (o : Option Addr) (len cap : Nat) (hs : Slc w o len f) (hw : wfF f) (hsz : f.size ≤ 1000000) :
    Calls Tryd.prog 102 #[.slice o len cap] w fun e w' => ∃ vo, e = .returned vo ∧ IntRow w.heap.size w' vo (Fo.vars [] f) ∧ Quiet0 w w' := by
  have HS := Lib.hid hs
  have HL := Lib.hid hs.1
  have HWF := Lib.hid hw
  have hmx := hs.2.1
  unfold maxLen at hmx
  have hmm := @run_makeMap Tryd.prog
  clear hs hw
  go_enter Tryd.func102, Tryd.ntmps102
  go_wp2_with fail
  obtain ⟨W0, hW0⟩ : ∃ W0, W0 = ((w.alloc (.map #[] 0)).alloc (.cells #[.map (some w.heap.size)] 125)).alloc (.cells #[.slice none 0 0] 55) := ⟨_, rfl⟩
  change Code.wp _ _ _ _ (((w.alloc (.map #[] 0)).alloc (.cells #[.map (some w.heap.size)] 125)).alloc (.cells #[.slice none 0 0] 55))
  have HJ0 : Hid (VarsJ w (w.heap.size + 1) (w.heap.size + 1 + 1) w.heap.size 0 [] W0) := by
    rw [hW0]
    refine ⟨.slice none 0 0, ?_, ?_, ?_, World.ownsRow_nil _ _ _ _, (fun g hg => by cases hg), Nat.le_refl _, (((Quiet0.alloc _ _).trans (Quiet0.alloc _ _)).trans (Quiet0.alloc _ _))⟩
    · refine Box1.alloc ?_ _
      have := Box1.new (w.alloc (.map #[] 0)) (.map (some w.heap.size)) 125
      rw [show (w.alloc (.map #[] 0)).heap.size = w.heap.size + 1 from by simp] at this
      exact this
    · have := Box1.new ((w.alloc (.map #[] 0)).alloc (.cells #[.map (some w.heap.size)] 125)) (.slice none 0 0) 55
      rw [show ((w.alloc (.map #[] 0)).alloc (.cells #[.map (some w.heap.size)] 125)).heap.size = w.heap.size + 1 + 1 from by simp] at this
      exact this
    · exact ((MapOf.made w).stay ((Quiet0.alloc _ _).trans (Quiet0.alloc _ _))).cong (fun v _ => by simp [seenP, inB])
  have HE := Lib.hid (each_any eg_vars (vars1_any w (w.heap.size + 1) (w.heap.size + 1 + 1) w.heap.size (by omega) (by omega) (by omega) (by omega) (by omega) (by omega)))
  rw [← hW0]
  clear hW0
  generalize hB : w.heap.size = B at *
  go_loopw [10] (fun t wr => ∃ (i m : Nat) (l : List Int), t = .int .i64 i ∧ i ≤ len ∧ m + (f.drop i).size = f.size ∧ Fo.vars l (f.drop i) = Fo.vars [] f ∧ VarsJ w (B + 1) (B + 1 + 1) B m l wr) (fun t _ => len - (intOf t).toNat)
  case atStart => exact ⟨0, 0, [], rfl, Nat.zero_le _, by rw [Fo.drop_zero]; omega, by rw [Fo.drop_zero], HJ0.out⟩
  case round =>
    obtain ⟨i, m, l, rfl, hi, hm, hv, hj⟩ := hrel
    have HM := Lib.hid hm
    have HV := Lib.hid hv
    have HJ := Lib.hid hj
    have hqq : Quiet0 w wr := by obtain ⟨_, _, _, _, _, _, _, h⟩ := hj; exact h
    have HQ := Lib.hid hqq
    clear hm hv hj hqq
    by_cases hlt : i < len
    · have hlt' : (i : Int) < len := by omega
      obtain ⟨b, off, k1, n1, qs, o1, len1, cap1, rfl, hd, hg, e0, e1, e2, hs1⟩ := (HS.out.stay HQ.out).nth hlt
      obtain ⟨_, _, _, _, _, _, _, _, ho, hd', hg', _, _, f2, hs0⟩ := HS.out.nth hlt
      rw [hg] at hg'
      cases hg'
      cases ho
      have f2' := HQ.out.at f2
      rw [e2] at f2'
      cases f2'
      have hjb : VarsJ w (B + 1) (B + 1 + 1) B m l (wr.alloc (.cells #[.int .i64 k1, .int .i64 n1, .slice o1 len1 cap1] 25)) := by
        obtain ⟨vo, h1, h2, h3, h4, h5, h6, h7⟩ := HJ.out
        exact ⟨vo, h1.alloc _, h2.alloc _, h3.stay (Quiet0.alloc _ _), h4.alloc _, h5, h6, h7.trans (Quiet0.alloc _ _)⟩
      have hgn := allF_get f i k1 n1 qs HWF.out hg
      have HC := Lib.hid (HE.out k1 n1 qs m l _ o1 len1 cap1 hjb hs0 (by
        have := HM.out; rw [hd] at this; simp only [Fo.size] at this; omega) hgn.1 hgn.2)
      have HM2 : Hid (m + (qs.size + 1) + (f.drop (i + 1)).size = f.size) := by
        have := HM.out; rw [hd] at this; simp only [Fo.size] at this; show _ = _; omega
      have HV2 : Hid (Fo.vars (foldF varStep (varStep l k1 n1 qs) qs) (f.drop (i + 1)) = Fo.vars [] f) := by
        show _ = _
        rw [← HV.out, hd, vars_fold, vars_cons]
      unfold tyv at HC
      clear hd hg hs1 hd' f2 hs0 hjb hgn
      go_wp2_with fail
      refine HC.out.mono ?_; rintro e w2 ⟨rfl, hj2⟩
      have HJ2 := Lib.hid hj2
      clear hj2
      go_wp2_with fail
      go_roundw
      case rel => exact ⟨i + 1, _, _, by go_num, by omega, HM2.out, HV2.out, HJ2.out⟩
      case measure => simp [intOf]; omega
    · have hlt' : ¬ (i : Int) < len := by omega
      have hfin : Fo.vars [] f = l := by
        have := HV.out
        rw [Fo.drop_end f i (by have := HL.out; omega)] at this
        exact this.symm
      have HFIN := Lib.hid hfin
      obtain ⟨vo, h1, h2, h3, h4, h5, h6, h7⟩ := HJ.out
      have c2 := cell_of_one h2
      have H4 := Lib.hid h4
      have H5 := Lib.hid h5
      have H7 := Lib.hid h7
      clear h1 h2 h3 h4 h5 h6 h7 hfin
      go_wp2_with fail
      go_ret
      refine ⟨vo, rfl, ?_, H7.out⟩
      rw [HFIN.out]
      exact ⟨H4.out, fun g hg => by have := (H5.out g hg).1; omega⟩
end Go.Proofs.YtnfodiedalhlhaaDoor
end
section
namespace Go.Proofs.YtnfodiedalhlhaaDoor
open Go.RowKit Go.Maps
theorem vars_len : ∀ (f : Fo) (l : List Int), (Fo.vars l f).length ≤ l.length + f.size
  | .nil, l => by simp [Fo.vars, Fo.size]
  | .cons k n ps r, l => by
    rw [vars_cons]
    have h1 := vars_len r (Fo.vars (varStep l k n ps) ps)
    have h2 := vars_len ps (varStep l k n ps)
    have h3 : (varStep l k n ps).length ≤ l.length + 1 := by unfold varStep; split <;> simp
    simp only [Fo.size]; omega
theorem IntRow.at {B : Nat} {w : World} {vo : Value} {l : List Int} (h : IntRow B w vo l) : ∃ a c, vo = .slice a l.length c ∧ l.length ≤ c ∧ (∀ g, (Value.slice a l.length c).ownBlock = some g → B ≤ g) ∧ w.ownsRow 0 3 1 (.slice a l.length c) l.length (ints l) := by
  obtain ⟨h1, h2⟩ := h
  have h1' := h1
  rcases h1.2 with ⟨rfl, h0⟩ | ⟨g, cap, cur, rfl, _, _, hc, _⟩
  · exact ⟨none, 0, by rw [h0], by omega, by rw [h0]; exact h2, by rw [h0]; rw [h0] at h1'; exact h1'⟩
  · exact ⟨some ⟨g, 0, none⟩, cap, rfl, by omega, h2, h1'⟩
theorem row_int {w : World} {a : Option Addr} {n c : Nat} {l : List Int} (h : w.ownsRow 0 3 1 (.slice a n c) l.length (ints l)) {i : Nat} {x : Int} (hx : l[i]? = some x) : ∃ g, a = some ⟨g, 0, none⟩ ∧ w.cell? ⟨g, i, none⟩ = some (.int .i64 x) := by
  rcases h.2 with ⟨he, h0⟩ | ⟨g, cap, cur, he, _⟩
  · rw [List.length_eq_zero_iff.1 h0] at hx; simp at hx
  · injection he with h1 h2 h3
    subst h1
    have := h.cells (g := g) rfl i (.int .i64 x) (by unfold ints; rw [List.getElem?_map, hx]; rfl)
    exact ⟨g, rfl, by simpa [Addr.add_lit] using this⟩
end Go.Proofs.YtnfodiedalhlhaaDoor
end
