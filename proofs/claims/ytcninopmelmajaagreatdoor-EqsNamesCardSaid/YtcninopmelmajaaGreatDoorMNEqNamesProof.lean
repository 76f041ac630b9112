/-
  EqsNames: for every argument the call returns true, and nothing of what was there turns: the row, and its tied card. Condition: the listed variables hold what the row lists (the card ties that to the program's text).
-/
import Derived.SevenTiedAt
import Derived.Test.YtcninopmelmajaaGreatDoorCards
import Derived.Test.YtcninopmelmajaaGreatDoorTie
import Derived.Test.YtcninopmelmajaaGreatDoorMN26
section
namespace Go.Proofs.YtcninopmelmajaaGreatDoor
open Go.ChangeShapes Go.WideShapes Go.ChangeAt Go.RowKit
set_option maxRecDepth 100000 in
theorem eqsNames_lifted (os : Os) (started : os.Started) (H : Type) (enc : TypeId × Value -> H) :
    ReturnsInHanded {} Tryz.checked os 6 .any (fun w args => (Rows.eqsNamesSpec.pre enc Tryz.prog Tryz.f6 [] false w args /\ laidMetH Tryz.prog laidL w) /\ sizedMet enc Tryz.prog Tryz.f6 (OpenSpec.ofChange Rows.eqsNamesSpec) false w args)
     (Rows.eqsNamesSpec.post enc Tryz.prog Tryz.f6 false true false false) := by
 refine returnsInHanded_of_change_and (C := Tryz.checked) (X := fun w _ => laidMetH Tryz.prog laidL w) (fun _ _ _ hh h => h.of_heap hh) own started (by kernel_rfl) Tryz.func6
  (ChangeSpec.witness_shaped (enc := enc) (C := Tryz.checked) (os := os) (X := fun w _ => laidMetH Tryz.prog laidL w) false (World.doorLaid Tryz.prog doorSteps os) #[.agg #[.int .i64 0, .string ⟨#[]⟩, .int .i64 0, .int .i64 0, .int .i64 0, .slice none 0 0, .slice none 0 0, .int .i64 0, .int .i64 0], .slice none 0 0] 8 rfl (World.shaped_of_RefB (by kernel_rfl) (by kernel_rfl)) (by kernel_rfl) (by kernel_rfl) (by kernel_rfl) (door_met os _)) ?_
 intro W base args ds gs before hval0 hW _ _ hL _
 have hval : ∀ (j : Nat) t v, Tryz.f6.params[j]? = some t -> args[j]? = some v -> Value.okWide Tryz.prog W .any base t v := hval0
 have hW' := hW
 obtain ⟨p, q, hA0, hV, rfl, hfz, hnd⟩ := hW
 have hA : DataW.TrodAll enc Tryz.prog W 0 (fun _ => true) true Tryz.f6.params.toList args.toList ds p := hA0
 rw [Tryz.params6] at hA hval
 have hS := spaces_of_laid hL
 obtain ⟨v0, vs0, d0, ds0, p0, q0, hargs, rfl, rfl, h0, r0⟩ := trodAll_cons hA
 obtain ⟨v1, vs1, d1, ds1, p1, q1, rfl, rfl, rfl, h1, r1⟩ := trodAll_cons r0
 obtain ⟨rfl, rfl, rfl⟩ := trodAll_nil r1
 obtain rfl : args = #[v0, v1] := by cases args; simp_all
 obtain ⟨rfl, rfl⟩ := trodVars_none hV
 obtain ⟨a, ps, o1, l1, c1, o2, l2, c2, rfl, hs1, hs2, hoa, hop⟩ := open_term (okWide_struct Tryz.underlying29 (hval 0 29 v0 rfl rfl)) h0
 obtain ⟨lo, lc, l, rfl, hL, _, _, hlc⟩ := open_strs (okWide_slice Tryz.underlying49 (hval 1 49 v1 rfl rfl)) h1
 refine (Em.eqsNames_all a ps W o1 l1 c1 o2 l2 c2 lo lc l ⟨hs1, hs2, hoa, hop, hS⟩ hL hlc).mono fun e W' ⟨he, hg⟩ => ?_
 subst he
 exact ⟨_, rfl, law_post hW' rfl rfl rfl rfl rfl (by kernel_rfl) (Fr.below hg (Nat.le_refl _) (fun _ h => h.elim))⟩
theorem eqsNames_holds : Rows.EqsNamesSaid :=
 OpenClaim.holds_of_wide 6 Tryz.f6 rfl rfl rfl rfl rfl rfl rfl ⟨rfl, rfl, rfl, rfl, rfl⟩ rfl rfl rfl rfl rfl (by kernel_rfl) Tryz.func6 (by kernel_rfl)
  (of_decide_eq_true (by kernel_rfl)) (by unfold Func.isWrapper; first | (rw [if_pos (by decide +kernel)]; kernel_rfl) | (rw [if_neg (by decide +kernel)]; exact ⟨rfl, rfl⟩))
  (fun os started H enc _ => eqsNames_lifted os started H enc)
theorem eqsNames_card : Rows.EqsNamesCardSaid :=
 Claim7.holds_tied_plain_at .later [] [.listed, .data] true Rows.eqsNamesCard.stood.harness Rows.eqsNamesCard.stood.looks
  eqsNames_holds (fun _ h => by cases h) (by kernel_rfl) (fun _ h => by cases h) eqsNames_row_tie rfl ⟨rfl, rfl⟩ (by kernel_rfl) rfl
  (fun f fn hf hfn => by
   obtain rfl : f = 6 := Option.some.inj ((show Tryz.prog.funcNamed Rows.eqsNamesRow.func = some 6 by kernel_rfl).symm.trans hf) |>.symm
   obtain rfl : fn = Tryz.f6 := (Option.some.inj (Tryz.func6.symm.trans hfn)).symm
   exact ⟨by kernel_rfl, fun j t ht => by
    rw [Tryz.params6] at ht
    have hm : t ∈ [29, 49] := by simpa using Array.mem_of_getElem? ht
    have hall : ([29, 49].all fun u => !Tryz.prog.wantsStandIn u) = true := by kernel_rfl
    exact (show Tryz.prog.wantsStandIn t = false by simpa using List.all_eq_true.1 hall t hm)⟩)
  (by kernel_rfl)
end Go.Proofs.YtcninopmelmajaaGreatDoor
end
