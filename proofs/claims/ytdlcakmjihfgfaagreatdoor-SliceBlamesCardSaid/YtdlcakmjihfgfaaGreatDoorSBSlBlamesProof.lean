/-
  Texts laid together (SlBlamesProof): what each one proves, and its conditions, stands at its head.
-/
import Derived.LaidMore
import Derived.Lay
import Derived.SevenTiedAt
import Derived.Stop.Joined
import Derived.Test.YtdlcakmjihfgfaaGreatDoorCards
import Derived.Test.YtdlcakmjihfgfaaGreatDoorTie
import Derived.Test.YtdlcakmjihfgfaaGreatDoorSB1
import Derived.Test.YtdlcakmjihfgfaaGreatDoorSB2
import Derived.Test.YtdlcakmjihfgfaaGreatDoorSB3
import Derived.Test.YtdlcakmjihfgfaaGreatDoorSB4
import Derived.Test.YtdlcakmjihfgfaaGreatDoorSB5
import Derived.Test.YtdlcakmjihfgfaaGreatDoorSB6
import Derived.Test.YtdlcakmjihfgfaaGreatDoorSB7
import Derived.Test.YtdlcakmjihfgfaaGreatDoorSB8
import Derived.Test.YtdlcakmjihfgfaaGreatDoorSB9
import Derived.Test.YtdlcakmjihfgfaaGreatDoorSB10
import Derived.Test.YtdlcakmjihfgfaaGreatDoorSB11
import Derived.Test.YtdlcakmjihfgfaaGreatDoorSB12
import Derived.Test.YtdlcakmjihfgfaaGreatDoorSB13
section
/-
  SliceBlames: for every argument the call returns true, and nothing of what was there turns: the row, and its tied card. Condition: the listed variables hold what the row lists (the card ties that to the program's text).
-/
namespace Go.Proofs.YtdlcakmjihfgfaaGreatDoor
open Go.ChangeShapes Go.WideShapes Go.ChangeAt Go.RowKit

def sliceBlamesL : List (String × DataW Unit) := [("unicode/utf8.acceptRanges", Rows.laid_unicode_utf8_acceptRanges), ("unicode.White_Space", Rows.laid_unicode_White_Space), ("strings.asciiSpace", Rows.laid_strings_asciiSpace), ("unicode/utf8.first", Rows.laid_unicode_utf8_first)]
set_option maxRecDepth 100000 in
theorem sliceBlames_lifted (os : Os) (started : os.Started) (H : Type) (enc : TypeId × Value → H) :
    ReturnsInHanded {} Tryz.checked os 3 .any (fun w args => (Rows.sliceBlamesSpec.pre enc Tryz.prog Tryz.f3 [] false w args ∧ laidMetH Tryz.prog sliceBlamesL w) ∧ sizedMet enc Tryz.prog Tryz.f3 (OpenSpec.ofChange Rows.sliceBlamesSpec) false w args)
      (Rows.sliceBlamesSpec.post enc Tryz.prog Tryz.f3 false true false false) := by
  refine returnsInHanded_of_change_and (C := Tryz.checked) (X := fun w _ => laidMetH Tryz.prog sliceBlamesL w) (fun _ _ _ hh h => h.of_heap hh) own started (by kernel_rfl) Tryz.func3
    (ChangeSpec.witness_shaped (enc := enc) (C := Tryz.checked) (os := os) (X := fun w _ => laidMetH Tryz.prog sliceBlamesL w) false (World.laidAll Tryz.prog os sliceBlamesL) #[.agg #[.int .i64 0, .string ⟨#[]⟩, .int .i64 0, .int .i64 0, .int .i64 0, .slice none 0 0, .slice none 0 0, .int .i64 0, .int .i64 0], .slice none 0 0] 8 (World.laidAll_os _ _ _) (World.shaped_of_ZipB (by kernel_rfl) (by kernel_rfl)) (by kernel_rfl) (by kernel_rfl) (by kernel_rfl)
      (by rw [MakeChecks.laidMetH_plain _ _ _ (by kernel_rfl)]; exact laidMet_laidAll _ (by kernel_rfl) (by kernel_rfl))) ?_
  intro W base args ds gs before hval0 hW _ _ hL _
  have hval : ∀ (j : Nat) t v, Tryz.f3.params[j]? = some t → args[j]? = some v → Value.okWide Tryz.prog W .any base t v := hval0
  have hW' := hW
  obtain ⟨p, q, hA0, hV, rfl, hfz, hnd⟩ := hW
  have hA : DataW.TrodAll enc Tryz.prog W 0 (fun _ => true) true Tryz.f3.params.toList args.toList ds p := hA0
  rw [Tryz.params3] at hA hval
  obtain ⟨v0, vs0, d0, ds0, p0, q0, hargs, rfl, rfl, h0, r0⟩ := trodAll_cons hA
  obtain ⟨v1, vs1, d1, ds1, p1, q1, rfl, rfl, rfl, h1, r1⟩ := trodAll_cons r0
  obtain ⟨rfl, rfl, rfl⟩ := trodAll_nil r1
  obtain rfl : args = #[v0, v1] := by cases args; simp_all
  obtain ⟨rfl, rfl⟩ := trodVars_none hV
  have hL0 := hL
  rw [MakeChecks.laidMetH_plain _ _ _ (by kernel_rfl)] at hL0
  have hS := spacesB_of_laid hL0
  obtain ⟨a, ps, o1, l1, c1, o2, l2, c2, rfl, hs1, hs2, hoa, hop⟩ := open_term (okWide_struct Tryz.underlying29 (hval 0 29 v0 rfl rfl)) h0
  obtain ⟨o, cap, l, rfl, hsp, _, hlen, _⟩ := open_spans Tryz.underlying30 (okWide_slice Tryz.underlying30 (hval 1 30 v1 rfl rfl)) h1
  refine (sliceBlames_all a ps l o cap W o1 l1 c1 o2 l2 c2 hs1 hs2 hoa hop hsp hlen hS).mono fun e W' ⟨he, hg⟩ => ?_
  subst he
  exact ⟨_, rfl, law_post hW' rfl rfl rfl rfl rfl (by kernel_rfl) (Fr.below hg (Nat.le_refl _) (fun _ h => h.elim))⟩

theorem sliceBlames_holds : Rows.SliceBlamesSaid :=
  OpenClaim.holds_of_wide 3 Tryz.f3 rfl rfl rfl rfl rfl rfl rfl ⟨rfl, rfl, rfl, rfl, rfl⟩ rfl rfl rfl rfl rfl (by kernel_rfl) Tryz.func3 (by kernel_rfl)
    (of_decide_eq_true (by kernel_rfl)) (by unfold Func.isWrapper; first | (rw [if_pos (by decide +kernel)]; kernel_rfl) | (rw [if_neg (by decide +kernel)]; exact ⟨rfl, rfl⟩))
    (fun os started H enc _ => sliceBlames_lifted os started H enc)
theorem sliceBlames_card : Rows.SliceBlamesCardSaid :=
  Claim7.holds_tied_plain_at .later [] [.data, .listed, .data, .pinned] true Rows.sliceBlamesCard.stood.harness Rows.sliceBlamesCard.stood.looks
    sliceBlames_holds (fun _ h => by cases h) (by kernel_rfl) (fun _ h => by cases h) sliceBlames_row_tie rfl ⟨rfl, rfl⟩ (by kernel_rfl) rfl
    (fun f fn hf hfn => by
      obtain rfl : f = 3 := Option.some.inj ((show Tryz.prog.funcNamed Rows.sliceBlamesRow.func = some 3 by kernel_rfl).symm.trans hf) |>.symm
      obtain rfl : fn = Tryz.f3 := (Option.some.inj (Tryz.func3.symm.trans hfn)).symm
      exact ⟨by kernel_rfl, fun j t ht => by
        rw [Tryz.params3] at ht
        have hm : t ∈ [29, 30] := by simpa using Array.mem_of_getElem? ht
        have hall : ([29, 30].all fun u => !Tryz.prog.wantsStandIn u) = true := by kernel_rfl
        exact (show Tryz.prog.wantsStandIn t = false by simpa using List.all_eq_true.1 hall t hm)⟩)
    (by kernel_rfl)
end Go.Proofs.YtdlcakmjihfgfaaGreatDoor
end
