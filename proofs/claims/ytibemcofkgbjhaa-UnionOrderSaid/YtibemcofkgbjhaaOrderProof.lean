/-
  UnionOrder: for every n, pairs and order the call returns true, and nothing of what was there turns. No condition.
-/
import Derived.Test.YtibemcofkgbjhaaOrder
namespace Go.Proofs.Ytibemcofkgbjhaa
open Go.ChangeShapes Go.WideShapes Go.ChangeAt Go.RowKit

set_option maxRecDepth 100000 in
theorem unionOrder_big (N : Nat) (o o2 : Option Addr) (len cap len2 cap2 : Nat) (w : World) (h : 40 < len ∨ 60 < len2) :
    Calls Try.prog 3 #[.int .u8 N, .slice o len cap, .slice o2 len2 cap2] w fun e w' => e = .returned (.bool true) ∧ Quiet0 w w' := by
  by_cases h1 : 40 < len
  · clear h
    go_enter Try.func3, Try.ntmps3
    go_wp2_with fail
    refine (awake_any _).mono ?_; rintro e w6 ⟨rfl, hq⟩
    go_wp2
    go_ret
    exact ⟨rfl, hq⟩
  · have h2 : 60 < len2 := by omega
    clear h
    go_enter Try.func3, Try.ntmps3
    go_wp2_with fail
    refine (awake_any _).mono ?_; rintro e w6 ⟨rfl, hq⟩
    go_wp2
    go_ret
    exact ⟨rfl, hq⟩

theorem unionOrder_all (N : Nat) (o o2 : Option Addr) (len cap len2 cap2 : Nat) (A B C : Nat → Nat) (w : World) (hN : N ≤ 255) (hl : PairsAt w o len A B) (h2 : BytesAt w o2 len2 C) :
    Calls Try.prog 3 #[.int .u8 N, .slice o len cap, .slice o2 len2 cap2] w fun e w' => e = .returned (.bool true) ∧ Quiet0 w w' := by
  by_cases h : 40 < len ∨ 60 < len2
  · exact unionOrder_big N o o2 len cap len2 cap2 w h
  · exact unionOrder_walk N o o2 len cap len2 cap2 A B C w hN hl h2 (by omega) (by omega)

set_option maxRecDepth 100000 in
theorem unionOrder_lifted (os : Os) (started : os.Started) (H : Type) (enc : TypeId × Value → H) :
    ReturnsInHanded {} Try.checked os 3 .any (Rows.unionOrderSpec.pre6 enc Try.prog Try.f3 Rows.unionOrderRow.domain false) (Rows.unionOrderSpec.post enc Try.prog Try.f3 false true false false) := by
  refine returnsInHanded_of_change (C := Try.checked) own started (by kernel_rfl) Try.func3
    (ChangeSpec.witness6 (enc := enc) (C := Try.checked) false ⟨#[], #[.int .u8 0, .slice none 0 0, .slice none 0 0], []⟩ 8 (by kernel_rfl) (by kernel_rfl) (by kernel_rfl) (by kernel_rfl)) ?_
  intro W base args ds gs before hval0 hW hcnd _
  have hval : ∀ (j : Nat) t v, Try.f3.params[j]? = some t → args[j]? = some v → Value.okWide Try.prog W .any base t v := hval0
  have hW' := hW
  obtain ⟨p, q, hA0, hV, rfl, hfz, hnd⟩ := hW
  have hA : DataW.TrodAll enc Try.prog W 0 (fun _ => true) true Try.f3.params.toList args.toList ds p := hA0
  rw [Try.params3] at hA hval
  obtain ⟨v0, vs0, d0, ds0, p0, q0, hargs, rfl, rfl, h0, r0⟩ := trodAll_cons hA
  obtain ⟨v1, vs1, d1, ds1, p1, q1, rfl, rfl, rfl, h1, r1⟩ := trodAll_cons r0
  obtain ⟨v2, vs2, d2, ds2, p2, q2, rfl, rfl, rfl, h2, r2⟩ := trodAll_cons r1
  obtain ⟨rfl, rfl, rfl⟩ := trodAll_nil r2
  obtain rfl : args = #[v0, v1, v2] := by cases args; simp_all
  obtain ⟨rfl, rfl⟩ := trodVars_none hV
  obtain ⟨a0, rfl, e0, _, wf0⟩ := open_int Try.underlying5 (hval 0 5 v0 rfl rfl) h0
  obtain ⟨N, rfl, hN⟩ := byte_of wf0
  obtain ⟨o, len, cap, A, B, rfl, _, hl⟩ := open_pairs8 Try.underlying22 Try.underlying31 Try.underlying5 (by kernel_rfl) (by kernel_rfl) (okWide_slice Try.underlying22 (hval 1 22 v1 rfl rfl)) h1
  obtain ⟨o2, len2, cap2, C, rfl, _, hl2⟩ := open_bytes Try.underlying23 Try.underlying5 (by kernel_rfl) (okWide_slice Try.underlying23 (hval 2 23 v2 rfl rfl)) h2
  refine (unionOrder_all N o o2 len cap len2 cap2 A B C W hN hl hl2).mono fun e W' ⟨he, hg⟩ => ?_
  subst he
  exact ⟨_, rfl, law_post hW' rfl rfl rfl rfl rfl (by kernel_rfl) (Fr.below hg (Nat.le_refl _) (fun _ h => h.elim))⟩

theorem unionOrder_holds : Rows.UnionOrderSaid :=
  OpenClaim.holds_of_wide 3 Try.f3 rfl rfl rfl rfl rfl rfl rfl ⟨rfl, rfl, rfl, rfl, rfl⟩ rfl rfl rfl rfl rfl (by kernel_rfl) Try.func3 (by kernel_rfl)
    (of_decide_eq_true (by kernel_rfl)) (by unfold Func.isWrapper; first | (rw [if_pos (by decide +kernel)]; kernel_rfl) | (rw [if_neg (by decide +kernel)]; exact ⟨rfl, rfl⟩))
    (fun os started H enc _ => unionOrder_lifted os started H enc)
end Go.Proofs.Ytibemcofkgbjhaa
