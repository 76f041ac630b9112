/-
  SliceOf: for every argument the call returns true, and nothing of what was there turns: the row, and its tied card. Condition: the listed variables hold what the row lists (the card ties that to the program's text).
-/
import Derived.Test.YtdlcakmjihfgfaaDoorSlOfLaw
import Derived.Test.YtdlcakmjihfgfaaDoorSuOpen
import Derived.Test.YtdlcakmjihfgfaaDoorLaw
import Derived.Test.YtdlcakmjihfgfaaDoorCards
import Derived.Test.YtdlcakmjihfgfaaDoorTie
import Derived.LaidMore
import Derived.Lay
import Derived.SevenTiedAt
import Derived.Stop.Joined
namespace Go.Proofs.YtdlcakmjihfgfaaDoor
open Go.ChangeShapes Go.WideShapes Go.ChangeAt Go.RowKit

def sliceOfL : List (String × DataW Unit) := [("unicode/utf8.acceptRanges", Rows.laid_unicode_utf8_acceptRanges), ("unicode/utf8.first", Rows.laid_unicode_utf8_first)]
set_option maxRecDepth 100000 in
theorem sliceOf_lifted (os : Os) (started : os.Started) (H : Type) (enc : TypeId × Value → H) :
    ReturnsInHanded {} Tryd.checked os 5 .any (fun w args => (Rows.sliceOfSpec.pre enc Tryd.prog Tryd.f5 [] false w args ∧ laidMetH Tryd.prog sliceOfL w) ∧ sizedMet enc Tryd.prog Tryd.f5 (OpenSpec.ofChange Rows.sliceOfSpec) false w args)
      (Rows.sliceOfSpec.post enc Tryd.prog Tryd.f5 false true false false) := by
  refine returnsInHanded_of_change_and (C := Tryd.checked) (X := fun w _ => laidMetH Tryd.prog sliceOfL w) (fun _ _ _ hh h => h.of_heap hh) own started (by kernel_rfl) Tryd.func5
    (ChangeSpec.witness_shaped (enc := enc) (C := Tryd.checked) (os := os) (X := fun w _ => laidMetH Tryd.prog sliceOfL w) false (World.laidAll Tryd.prog os sliceOfL) #[.slice none 0 0, .slice none 0 0] 8 (World.laidAll_os _ _ _) (World.shaped_of_ZipB (by kernel_rfl) (by kernel_rfl)) (by kernel_rfl) (by kernel_rfl) (by kernel_rfl)
      (by rw [MakeChecks.laidMetH_plain _ _ _ (by kernel_rfl)]; exact laidMet_laidAll _ (by kernel_rfl) (by kernel_rfl))) ?_
  intro W base args ds gs before hval0 hW _ _ hL _
  have hval : ∀ (j : Nat) t v, Tryd.f5.params[j]? = some t → args[j]? = some v → Value.okWide Tryd.prog W .any base t v := hval0
  have hW' := hW
  obtain ⟨p, q, hA0, hV, rfl, hfz, hnd⟩ := hW
  have hA : DataW.TrodAll enc Tryd.prog W 0 (fun _ => true) true Tryd.f5.params.toList args.toList ds p := hA0
  rw [Tryd.params5] at hA hval
  obtain ⟨v0, vs0, d0, ds0, p0, q0, hargs, rfl, rfl, h0, r0⟩ := trodAll_cons hA
  obtain ⟨v1, vs1, d1, ds1, p1, q1, rfl, rfl, rfl, h1, r1⟩ := trodAll_cons r0
  obtain ⟨rfl, rfl, rfl⟩ := trodAll_nil r1
  obtain rfl : args = #[v0, v1] := by cases args; simp_all
  obtain ⟨rfl, rfl⟩ := trodVars_none hV
  obtain ⟨o, c1, l, rfl, hs1, _, hz1, _⟩ := open_eqs Tryd.underlying34 (okWide_slice Tryd.underlying34 (hval 0 34 v0 rfl rfl)) h0
  obtain ⟨o2, c2, ns, rfl, hi, _, hz2⟩ := open_intv Tryd.underlying27 (okWide_slice Tryd.underlying27 (hval 1 27 v1 rfl rfl)) h1
  refine (sliceOf_all l o c1 ns o2 c2 W hs1 hi hz1 hz2).mono fun e W' ⟨he, hg⟩ => ?_
  subst he
  exact ⟨_, rfl, law_post hW' rfl rfl rfl rfl rfl (by kernel_rfl) (Fr.below hg (Nat.le_refl _) (fun _ h => h.elim))⟩

theorem sliceOf_holds : Rows.SliceOfSaid :=
  OpenClaim.holds_of_wide 5 Tryd.f5 rfl rfl rfl rfl rfl rfl rfl ⟨rfl, rfl, rfl, rfl, rfl⟩ rfl rfl rfl rfl rfl (by kernel_rfl) Tryd.func5 (by kernel_rfl)
    (of_decide_eq_true (by kernel_rfl)) (by unfold Func.isWrapper; first | (rw [if_pos (by decide +kernel)]; kernel_rfl) | (rw [if_neg (by decide +kernel)]; exact ⟨rfl, rfl⟩))
    (fun os started H enc _ => sliceOf_lifted os started H enc)
theorem sliceOf_card : Rows.SliceOfCardSaid :=
  Claim7.holds_tied_plain_at .later [] [.data, .pinned] true Rows.sliceOfCard.stood.harness Rows.sliceOfCard.stood.looks
    sliceOf_holds (fun _ h => by cases h) (by kernel_rfl) (fun _ h => by cases h) sliceOf_row_tie rfl ⟨rfl, rfl⟩ (by kernel_rfl) rfl
    (fun f fn hf hfn => by
      obtain rfl : f = 5 := Option.some.inj ((show Tryd.prog.funcNamed Rows.sliceOfRow.func = some 5 by kernel_rfl).symm.trans hf) |>.symm
      obtain rfl : fn = Tryd.f5 := (Option.some.inj (Tryd.func5.symm.trans hfn)).symm
      exact ⟨by kernel_rfl, fun j t ht => by
        rw [Tryd.params5] at ht
        have hm : t ∈ [34, 27] := by simpa using Array.mem_of_getElem? ht
        have hall : ([34, 27].all fun u => !Tryd.prog.wantsStandIn u) = true := by kernel_rfl
        exact (show Tryd.prog.wantsStandIn t = false by simpa using List.all_eq_true.1 hall t hm)⟩)
    (by kernel_rfl)
end Go.Proofs.YtdlcakmjihfgfaaDoor
