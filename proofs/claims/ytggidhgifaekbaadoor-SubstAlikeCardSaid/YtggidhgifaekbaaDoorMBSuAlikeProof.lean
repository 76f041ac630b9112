/-
  Texts laid together (SuAlikeProof): what each one proves, and its conditions, stands at its head.
-/
import Derived.Laws.IdiomArrays
import Derived.SevenTiedAt
import Derived.Test.YtggidhgifaekbaaDoorCards
import Derived.Test.YtggidhgifaekbaaDoorTie
import Derived.Test.YtggidhgifaekbaaDoorMB1
import Derived.Test.YtggidhgifaekbaaDoorMB2
import Derived.Test.YtggidhgifaekbaaDoorMB3
import Derived.Test.YtggidhgifaekbaaDoorMB4
import Derived.Test.YtggidhgifaekbaaDoorMB5
import Derived.Test.YtggidhgifaekbaaDoorMB6
import Derived.Test.YtggidhgifaekbaaDoorMB7
import Derived.Test.YtggidhgifaekbaaDoorMB8
import Derived.Test.YtggidhgifaekbaaDoorMB9
import Derived.Test.YtggidhgifaekbaaDoorMB10
import Derived.Test.YtggidhgifaekbaaDoorMB11
import Derived.Test.YtggidhgifaekbaaDoorMB12
/-
  SubstAlike: for every argument the call returns true, and nothing of what was there turns: the row, and its tied card. Condition: the listed variables hold what the row lists (the card ties that to the program's text).
-/
namespace Go.Proofs.YtggidhgifaekbaaDoor
open Go.ChangeShapes Go.WideShapes Go.ChangeAt Go.RowKit

section
variable {H : Type} {enc : TypeId × Value → H} {w : World} {base : Nat} {spare : Nat → Bool} {held : Bool}
theorem elem_of {n : Nat} {c : Value} {y : DataW H × List MemPlace} (h : DataW.trod enc Tryd.prog w base spare held n 49 [c] = some y) : ∃ o k l, c = .slice o (List.length l) k ∧ BindsAt w o l ∧ (∀ t ∈ l, wfI t.1 ∧ wfI t.2.2.1 ∧ wfF t.2.2.2) ∧ l.length ≤ 9223372036854775807 := by
  have hv : ∃ a len cap, c = .slice a len cap := by
    rcases DataW.trod_slice Tryd.underlying49 h with ⟨he, _⟩ | ⟨a, len, cap, elems, rest, n, hfu, he, _⟩
    · exact ⟨_, _, _, by simpa using he⟩
    · exact ⟨_, _, _, by simpa using he⟩
  obtain ⟨a, len, cap, rfl⟩ := hv
  obtain ⟨o, k, l, e, h1, h2, h3, _⟩ := open_binds (v := .slice a len cap) (d := y.1) (p := y.2) (enc := enc) (w := w) (base := base) (spare := spare) (held := held) Tryd.underlying49 ⟨_, _, _, rfl⟩ ⟨n, h⟩
  exact ⟨o, k, l, e, h1, h2, h3⟩
theorem list3 (l : List Value) (h : l.length = 3) : ∃ c0 c1 c2, l = [c0, c1, c2] := by
  match l, h with
  | [c0, c1, c2], _ => exact ⟨c0, c1, c2, rfl⟩
set_option maxRecDepth 100000 in
theorem open_three {v : Value} {d : DataW H} {p : List MemPlace} {W : World} {b : Nat} (hv : Value.okWide Tryd.prog W .any b 61 v) (h : DataW.Trod enc Tryd.prog w base spare held 61 v d p) :
    ∃ o0 k0 l0 o1 k1 l1 o2 k2 l2, v = .agg #[.slice o0 (List.length l0) k0, .slice o1 (List.length l1) k1, .slice o2 (List.length l2) k2] ∧
      (BindsAt w o0 l0 ∧ (∀ t ∈ l0, wfI t.1 ∧ wfI t.2.2.1 ∧ wfF t.2.2.2) ∧ l0.length ≤ 9223372036854775807) ∧ (BindsAt w o1 l1 ∧ (∀ t ∈ l1, wfI t.1 ∧ wfI t.2.2.1 ∧ wfF t.2.2.2) ∧ l1.length ≤ 9223372036854775807) ∧ (BindsAt w o2 l2 ∧ (∀ t ∈ l2, wfI t.1 ∧ wfI t.2.2.1 ∧ wfF t.2.2.2) ∧ l2.length ≤ 9223372036854775807) := by
  obtain ⟨cs, rfl, hsz, _⟩ : ∃ cs, v = .agg cs ∧ cs.size = Tryd.prog.cellsOf 61 ∧ Row.okWide Tryd.prog W .any b 61 cs := by
    simpa [Value.okWide, Tryd.underlying61] using hv
  rw [show Tryd.prog.cellsOf 61 = 3 from by kernel_rfl] at hsz
  obtain ⟨l⟩ := cs
  obtain ⟨c0, c1, c2, rfl⟩ := list3 l hsz
  obtain ⟨fuel, hf⟩ := h
  obtain ⟨y0, y1, y2, m, _, h0, h1, h2⟩ := trod_array3 Tryd.underlying61 (by kernel_rfl) hf
  obtain ⟨o0, k0, l0, rfl, e0⟩ := elem_of h0
  obtain ⟨o1, k1, l1, rfl, e1⟩ := elem_of h1
  obtain ⟨o2, k2, l2, rfl, e2⟩ := elem_of h2
  exact ⟨o0, k0, l0, o1, k1, l1, o2, k2, l2, rfl, e0, e1, e2⟩
end
set_option maxRecDepth 100000 in
theorem substAlike_lifted (os : Os) (started : os.Started) (H : Type) (enc : TypeId × Value → H) :
    ReturnsInHanded {} Tryd.checked os 10 .any (fun w args => (Rows.substAlikeSpec.pre enc Tryd.prog Tryd.f10 [] false w args ∧ laidMetH Tryd.prog laidL w) ∧ sizedMet enc Tryd.prog Tryd.f10 (OpenSpec.ofChange Rows.substAlikeSpec) false w args)
      (Rows.substAlikeSpec.post enc Tryd.prog Tryd.f10 false true false false) := by
  refine returnsInHanded_of_change_and (C := Tryd.checked) (X := fun w _ => laidMetH Tryd.prog laidL w) (fun _ _ _ hh h => h.of_heap hh) own started (by kernel_rfl) Tryd.func10
    (ChangeSpec.witness_shaped (enc := enc) (C := Tryd.checked) (os := os) (X := fun w _ => laidMetH Tryd.prog laidL w) false (World.doorLaid Tryd.prog doorSteps os) #[.agg #[.slice none 0 0, .slice none 0 0, .slice none 0 0], .slice none 0 0] 8 rfl (World.shaped_of_RefB (by kernel_rfl) (by kernel_rfl)) (by kernel_rfl) (by kernel_rfl) (by kernel_rfl) (door_met os _)) ?_
  intro W base args ds gs before hval0 hW _ _ hL _
  have hval : ∀ (j : Nat) t v, Tryd.f10.params[j]? = some t → args[j]? = some v → Value.okWide Tryd.prog W .any base t v := hval0
  have hW' := hW
  obtain ⟨p, q, hA0, hV, rfl, hfz, hnd⟩ := hW
  have hA : DataW.TrodAll enc Tryd.prog W 0 (fun _ => true) true Tryd.f10.params.toList args.toList ds p := hA0
  rw [Tryd.params10] at hA hval
  have hS := pow10_of_laid hL
  obtain ⟨v0, vs0, d0, ds0, p0, q0, hargs, rfl, rfl, h0, r0⟩ := trodAll_cons hA
  obtain ⟨v1, vs1, d1, ds1, p1, q1, rfl, rfl, rfl, h1, r1⟩ := trodAll_cons r0
  obtain ⟨rfl, rfl, rfl⟩ := trodAll_nil r1
  obtain rfl : args = #[v0, v1] := by cases args; simp_all
  obtain ⟨rfl, rfl⟩ := trodVars_none hV
  obtain ⟨o0, c0, l0, o1, c1, l1, o2, c2, l2, rfl, ⟨hs0, hw0, hz0⟩, ⟨hs1, hw1, hz1⟩, hs2, hw2, hz2⟩ := open_three (hval 0 61 v0 rfl rfl) h0
  obtain ⟨ov, cv, lv, rfl, hsv, hwv, hzv⟩ := open_intv Tryd.underlying45 (okWide_slice Tryd.underlying45 (hval 1 45 v1 rfl rfl)) h1
  refine (substAlike_all l0 l1 l2 lv W o0 c0 o1 c1 o2 c2 ov cv hs0 hs1 hs2 hsv hw0 hw1 hw2 hwv hz0 hz1 hz2 hzv hS).mono fun e W' ⟨he, hg⟩ => ?_
  subst he
  exact ⟨_, rfl, law_post hW' rfl rfl rfl rfl rfl (by kernel_rfl) (Fr.below hg (Nat.le_refl _) (fun _ h => h.elim))⟩

theorem substAlike_holds : Rows.SubstAlikeSaid :=
  OpenClaim.holds_of_wide 10 Tryd.f10 rfl rfl rfl rfl rfl rfl rfl ⟨rfl, rfl, rfl, rfl, rfl⟩ rfl rfl rfl rfl rfl (by kernel_rfl) Tryd.func10 (by kernel_rfl)
    (of_decide_eq_true (by kernel_rfl)) (by unfold Func.isWrapper; first | (rw [if_pos (by decide +kernel)]; kernel_rfl) | (rw [if_neg (by decide +kernel)]; exact ⟨rfl, rfl⟩))
    (fun os started H enc _ => substAlike_lifted os started H enc)
theorem substAlike_card : Rows.SubstAlikeCardSaid :=
  Claim7.holds_tied_plain_at .later [] [.data, .data, .data] true Rows.substAlikeCard.stood.harness Rows.substAlikeCard.stood.looks
    substAlike_holds (fun _ h => by cases h) (by kernel_rfl) (fun _ h => by cases h) substAlike_row_tie rfl ⟨rfl, rfl⟩ (by kernel_rfl) rfl
    (fun f fn hf hfn => by
      obtain rfl : f = 10 := Option.some.inj ((show Tryd.prog.funcNamed Rows.substAlikeRow.func = some 10 by kernel_rfl).symm.trans hf) |>.symm
      obtain rfl : fn = Tryd.f10 := (Option.some.inj (Tryd.func10.symm.trans hfn)).symm
      exact ⟨by kernel_rfl, fun j t ht => by
        rw [Tryd.params10] at ht
        have hm : t ∈ [61, 45] := by simpa using Array.mem_of_getElem? ht
        have hall : ([61, 45].all fun u => !Tryd.prog.wantsStandIn u) = true := by kernel_rfl
        exact (show Tryd.prog.wantsStandIn t = false by simpa using List.all_eq_true.1 hall t hm)⟩)
    (by kernel_rfl)
end Go.Proofs.YtggidhgifaekbaaDoor
