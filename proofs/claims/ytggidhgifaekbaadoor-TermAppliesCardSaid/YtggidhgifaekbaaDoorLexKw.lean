/-
  Whether a text is one of the words: the program's Keyword and the reference's. Condition: strings.asciiSpace holds what its initialiser lays.
-/
import Derived.Test.YtggidhgifaekbaaDoorShelfLex
import Derived.Test.YtggidhgifaekbaaDoorLexByte
import Derived.Test.YtggidhgifaekbaaDoorQuiet
import Derived.Lib.SmallJoins
namespace Go.Proofs.YtggidhgifaekbaaDoor.Lx
open Go.RowKit

abbrev Spaces (w : World) : Prop := Lib.TabIs Tryd.prog w "strings.asciiSpace" .u8 Lib.asciiSpaceTab
theorem Spaces.stay {w w' : World} (h : Spaces w) (hq : Quiet0 w w') : Spaces w' := by
  have hg : Tryd.prog.globalNamed "strings.asciiSpace" = some 0 := by kernel_rfl
  exact Joins.tab_stays hg h hq.below (Nat.le_refl _)

def toBA (l : List UInt8) : ByteArray := ⟨l.toArray⟩
theorem toBA_toList (l : List UInt8) : (toBA l).data.toList = l := rfl
theorem toBA_of (s : ByteArray) : toBA s.data.toList = s := by cases s; rfl
theorem ba_ext {a b : ByteArray} (h : a.data.toList = b.data.toList) : a = b := by rw [← toBA_of a, ← toBA_of b, h]

def wordsText : ByteArray := ⟨#[32, 102, 117, 110, 32, 108, 101, 116, 32, 114, 101, 99, 32, 105, 110, 32, 105, 102, 32, 116, 104, 101, 110, 32, 101, 108, 115, 101, 32, 116, 114, 117, 101, 32, 102, 97, 108, 115, 101, 32, 105, 110, 116, 32, 98, 111, 111, 108, 32]⟩
theorem fields_words : Lib.fields wordsText.data.toList = kws := by decide +kernel
theorem ascii_words : ∀ (j : Nat) (b : UInt8), wordsText.data.toList[j]? = some b → b.toNat < 128 := by
  have h : ∀ b ∈ wordsText.data.toList, b.toNat < 128 := by decide +kernel
  intro j b hb
  exact h b (List.mem_of_getElem? hb)
theorem kw_contains (s : ByteArray) : Lib.containsS (kws.map toBA) s = kwB s.data.toList := by
  rw [Bool.eq_iff_iff, Lib.containsS_iff]
  unfold kwB
  rw [List.contains_iff_mem, List.mem_map]
  constructor
  · rintro ⟨l, hl, rfl⟩; exact hl
  · intro h; exact ⟨_, h, toBA_of s⟩
theorem kws_cells (w : World) (j : Nat) (hj : j < (kws.map toBA).length) : (w.alloc (.cells (kws.map fun l => Value.string ⟨l.toArray⟩).toArray 9)).cell? ⟨w.heap.size, 0 + j, none⟩ = some (.string ((kws.map toBA).getD j ByteArray.empty)) := by
  rw [cell_of_row _ _ _ _ _ (0, 0) (heap_alloc_new w _)]
  have hj' : j < kws.length := by simpa using hj
  simp only [Nat.zero_add, List.getElem?_toArray, List.getElem?_map, List.getD_eq_getElem?_getD]
  rw [List.getElem?_eq_getElem hj']; rfl

set_option maxHeartbeats 1000000 in
theorem keyword_any (s : ByteArray) (w : World) (ht : Spaces w) : Calls Tryd.prog 130 #[.string s] w fun e w' => e = .returned (.bool (kwB s.data.toList)) ∧ Quiet0 w w' := by
  have hF := Tryd.strings_Fields wordsText w (by decide) ascii_words ht
  rw [fields_words] at hF
  have hC := Tryd.slices_Contains_string w.heap.size 0 11 11 (kws.map toBA) s (w.alloc (.cells (kws.map fun l => Value.string ⟨l.toArray⟩).toArray 9)) (by decide) (by decide) (kws_cells w)
  rw [List.take_of_length_le (by decide), kw_contains] at hC
  have HF := Lib.hid hF
  have HC := Lib.hid hC
  clear hF hC ht
  generalize hA : (kws.map fun l => Value.string ⟨l.toArray⟩).toArray = A at *
  have HA := Lib.hid hA
  clear hA
  go_enter Tryd.func130, Tryd.ntmps130
  go_wp2_with fail
  refine HF.out.mono ?_; rintro e w' ⟨rfl, rfl⟩
  go_wp2_with fail
  refine HC.out.mono ?_; rintro e w' ⟨rfl, rfl⟩
  go_wp2
  go_ret
  exact ⟨rfl, Quiet0.alloc _ _⟩

theorem kw_at (j : Nat) (hj : j < 11) : (kws.getD j []) ∈ kws := by
  rw [List.getD_eq_getElem?_getD, List.getElem?_eq_getElem (by exact hj)]; exact List.getElem_mem _
set_option maxHeartbeats 1000000 in
set_option maxRecDepth 100000 in
theorem refKeyword_any (s : ByteArray) (w : World) : Calls Tryd.prog 133 #[.string s] w fun e w' => e = .returned (.bool (kwB s.data.toList)) ∧ Quiet0 w w' := by
  go_enter Tryd.func133, Tryd.ntmps133
  go_wp2
  have hcell : ∀ j, j < 11 → (w.alloc (.cells (kws.map fun l => Value.string ⟨l.toArray⟩).toArray 9)).cell? ⟨w.heap.size, j, none⟩ = some (.string (toBA (kws.getD j []))) := by
    intro j hj
    have := kws_cells w j (by exact hj)
    simp only [Nat.zero_add] at this
    rw [this]
    congr 2
    simp only [List.getD_eq_getElem?_getD, List.getElem?_map]
    rw [List.getElem?_eq_getElem (by exact hj)]; rfl
  have HCELL := Lib.hid hcell
  clear hcell
  obtain ⟨W, hW⟩ : ∃ W, W = w.alloc (.cells (kws.map fun l => Value.string ⟨l.toArray⟩).toArray 9) := ⟨_, rfl⟩
  have HQ : Hid (Quiet0 w W) := by rw [hW]; exact Quiet0.alloc _ _
  rw [← hW] at HCELL
  change Code.wp _ _ _ _ (w.alloc (.cells (kws.map fun l => Value.string ⟨l.toArray⟩).toArray 9))
  rw [← hW]
  clear hW
  generalize w.heap.size = b at *
  go_loop [4] (fun t => ∃ n : Nat, t = .int .i64 n ∧ n ≤ 11 ∧ kwB s.data.toList = (kws.drop n).contains s.data.toList) (fun t => 11 - (intOf t).toNat)
  case atStart => exact ⟨0, rfl, by omega, rfl⟩
  case round =>
    obtain ⟨n, rfl, hn, he⟩ := hrel
    have HE := Lib.hid he
    clear he
    by_cases hlt : n < 11
    · have c := HCELL.out n hlt
      have hd : kws.drop n = kws.getD n [] :: kws.drop (n + 1) := by
        rw [List.drop_eq_getElem_cons (by exact hlt), List.getD_eq_getElem?_getD, List.getElem?_eq_getElem (by exact hlt)]; rfl
      have HD := Lib.hid hd
      clear hd
      have hlt' : (n : Int) < 11 := by omega
      generalize kws.getD n [] = x at *
      cases hx : ((toBA x).toList == s.toList)
      · have hx' : (s.data.toList == x) = false := by
          rw [beq_eq_false_iff_ne] at hx ⊢
          intro h; apply hx; rw [ByteArray.toList_eq, ByteArray.toList_eq, toBA_toList, h]
        have HX' := Lib.hid hx'
        clear hx'
        go_wp2
        go_round
        case rel => exact ⟨n + 1, by go_num, by omega, by rw [HE.out, HD.out, List.contains_cons, HX'.out]; rfl⟩
        case measure => simp [intOf]; omega
      · have hx' : s.data.toList = x := by
          rw [beq_iff_eq] at hx
          rw [ByteArray.toList_eq, ByteArray.toList_eq, toBA_toList] at hx
          exact hx.symm
        have HX' := Lib.hid hx'
        clear hx'
        go_wp2
        go_ret
        exact ⟨by rw [HE.out, HD.out, List.contains_cons, HX'.out]; simp, HQ.out⟩
    · have hn11 : n = 11 := by omega
      subst hn11
      go_wp2
      go_ret
      exact ⟨by rw [HE.out]; rfl, HQ.out⟩
theorem eg_inner : ∀ args w, (callFunc 129 args).run Tryd.prog w = .ok (.enter 129 args) w := enters_of Tryd.func129 (by kernel_rfl) rfl
end Go.Proofs.YtggidhgifaekbaaDoor.Lx
