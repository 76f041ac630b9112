/-
  The law's examples (awake). Condition: strings.asciiSpace holds what its initialiser lays.
-/
import Derived.Test.YtaojlionebkcoaaDoorLexSame
namespace Go.Proofs.YtaojlionebkcoaaDoor
open Go.RowKit

theorem WordsPost.ok {l : List UInt8} {w w' : World} {e : Ending} (h : WordsPost l w e w') {ts : List Tok} (hw : wordsL l = .inl ts) :
    Quiet0 w w' ∧ ∃ g c, e = .returned (.tuple #[.slice (some ⟨g, 0, none⟩) ts.length c, .int .i64 0, .int .i64 0]) ∧ TokRow w' w.heap.size (.slice (some ⟨g, 0, none⟩) ts.length c) ts := by
  obtain ⟨hq, h⟩ := h
  rw [hw] at h
  exact ⟨hq, h⟩
theorem WordsPost.bad {l : List UInt8} {w w' : World} {e : Ending} (h : WordsPost l w e w') {p : Nat × Nat} (hw : wordsL l = .inr p) :
    Quiet0 w w' ∧ e = .returned (.tuple #[.slice none 0 0, .int .i64 (p.1 : Nat), .int .i64 (p.2 : Nat)]) := by
  obtain ⟨hq, h⟩ := h
  rw [hw] at h
  exact ⟨hq, h⟩

theorem wordsA_len : ∀ (at' : Nat) (l : List UInt8) (ts : List Tok), wordsA at' l = .inl ts → ts.length ≤ l.length + 1 := by
  suffices h : ∀ (n : Nat) (at' : Nat) (l : List UInt8) (ts : List Tok), l.length ≤ n → wordsA at' l = .inl ts → ts.length ≤ l.length + 1 from fun a l ts hw => h l.length a l ts (Nat.le_refl _) hw
  intro n
  induction n with
  | zero =>
    intro a l ts hl hw
    have : l = [] := List.eq_nil_of_length_eq_zero (by omega)
    subst this
    rw [wordsA_end rfl] at hw
    cases hw; simp
  | succ n ih =>
    intro a l ts hl hw
    have hle := skipL_le false l
    by_cases hk : skipL false l = l.length
    · rw [wordsA_end hk] at hw; cases hw; simp
    · by_cases he : (nextL (l.drop (skipL false l))).2.2 = 0
      · have hlen := nextL_len he
        rw [wordsA_tok (by omega) he] at hw
        revert hw
        cases hr : wordsA (a + skipL false l + (nextL (l.drop (skipL false l))).2.1) ((l.drop (skipL false l)).drop (nextL (l.drop (skipL false l))).2.1) with
        | inr e => intro hw; cases hw
        | inl us =>
          intro hw
          cases hw
          have := ih _ _ us (by simp only [List.length_drop] at *; omega) hr
          simp only [List.length_drop, List.length_cons] at *
          omega
      · rw [wordsA_bad (by omega) he] at hw; cases hw
theorem refSame_none (w : World) : Calls Tryd.prog 10 #[.slice none 0 0, .slice none 0 0] w fun e w' => e = .returned (.bool true) ∧ w = w' := by
  go_enter Tryd.func10, Tryd.ntmps10
  go_wp2_with fail
  refine wp_loop_rounds 1 ?_; rw [rounds_succ]
  go_wp2_with fail
  go_ret
  exact ⟨rfl, rfl⟩

set_option maxHeartbeats 1000000 in
theorem awake_any (w : World) (ht : Spaces w) : Calls Tryd.prog 7 #[] w fun e w' => e = .returned (.bool true) ∧ Quiet0 w w' := by
  have HT := Lib.hid ht
  clear ht
  have E1 : Hid (wordsL (⟨#[120, 45, 62, 49]⟩ : ByteArray).data.toList = .inl [⟨1, [120], 0, 1⟩, ⟨4, [45, 62], 1, 3⟩, ⟨2, [49], 3, 4⟩, endTok 4]) := by show _ = _; rfl
  have E2 : Hid (wordsL (⟨#[120, 32, 48, 48, 55]⟩ : ByteArray).data.toList = .inr (2, 3)) := by show _ = _; rfl
  go_enter Tryd.func7, Tryd.ntmps7
  go_wp2_with fail
  refine (words_any ⟨#[120, 45, 62, 49]⟩ (by decide) _ HT.out).mono ?_; rintro e w1 hp
  obtain ⟨hq1, g, c, rfl, hr⟩ := hp.ok E1.out
  have HQ1 := Lib.hid hq1
  have HR := Lib.hid hr
  clear hp hq1 hr
  go_wp2_with fail
  refine (words_any ⟨#[120, 32, 48, 48, 55]⟩ (by decide) _ (HT.out.stay HQ1.out)).mono ?_; rintro e w2 hp
  obtain ⟨hq2, rfl⟩ := hp.bad E2.out
  have hat := HR.out.at.stay HR.out.lt.2 hq2
  have c5 : w2.cell? ⟨g, 5, none⟩ = some (.string (toBA [45, 62])) := (hat 1 _ rfl).2.1
  have c12 : w2.cell? ⟨g, 12, none⟩ = some (.int .i64 0) := (hat 3 _ rfl).1
  have HQ2 := Lib.hid (HQ1.out.trans hq2)
  have hstr : ((toBA [45, 62]).toList == [45, 62]) = true := by rw [beq_iff_eq, ByteArray.toList_eq]; rfl
  clear hp hq2 hat
  go_wp2_with fail
  go_ret
  exact ⟨by first | rfl | simp_all, HQ2.out⟩
end Go.Proofs.YtaojlionebkcoaaDoor
