/-
  The closures of slice.Marked and slice.Skeleton. Condition: what the builder holds is not too long.
-/
import Derived.Test.YtdlcakmjihfgfaaDoorSlBuild
import Derived.Test.YtdlcakmjihfgfaaDoorSlPlain
import Derived.Shelf.Strings.SlTrimAscii
namespace Go.Proofs.YtdlcakmjihfgfaaDoor
open Go.RowKit Go.Shelf SpanPlain

/-- what a closure does with what stands between, and a slice -/
def DoB (g b B : Nat) (f : ByteArray → ByteArray → ByteArray → ByteArray) : Prop := ∀ (acc x y : ByteArray) (W : World), SB B b acc W → B ≤ W.heap.size → x.size ≤ 1000000 → y.size ≤ 1000000 → acc.size ≤ 100000000000000 →
  Calls Tryd.prog g #[.string x, .string y, .pointer (some ⟨b, 0, none⟩)] W fun e w' => e = .returned (.tuple #[]) ∧ SB B b (f acc x y) w' ∧ Below B W w' ∧ Kept8 b W w'
theorem toList_ne {y : ByteArray} (h : y ≠ ByteArray.empty) : y.toList ≠ [] := by
  intro e; apply h
  apply ByteArray.ext; apply Array.ext'; rw [← ByteArray.toList_eq, e]; rfl
set_option maxHeartbeats 2000000 in
theorem markDo_any (b B : Nat) : DoB 21 b B markF := by
  intro acc x y W h hB hx hy ha
  have H1 := Lib.hid (write_any B b acc x W h (by omega) hB)
  clear h
  by_cases hye : y = ByteArray.empty
  · have HF : Hid (markF acc x y = acc ++ x) := if_pos hye
    rw [HF.out]
    subst hye
    go_enter Tryd.func21, Tryd.ntmps21
    go_wp2_with fail
    refine H1.out.mono ?_; rintro e w1 ⟨rfl, hs1, hb1, hk1⟩
    go_wp2_with fail
    go_end0
    exact ⟨rfl, hs1, hb1, hk1⟩
  · have HF : Hid (markF acc x y = acc ++ x ++ (mL ++ y ++ mR)) := if_neg hye
    rw [HF.out]
    have hl0 : y.toList.isEmpty = false := by
      cases hh : y.toList.isEmpty
      · rfl
      · exact absurd (List.isEmpty_iff.1 hh) (toList_ne hye)
    have hl1 : ¬ y.toList = [] := toList_ne hye
    clear hye
    go_enter Tryd.func21, Tryd.ntmps21
    go_wp2_with fail
    refine H1.out.mono ?_; rintro e w1 ⟨rfl, hs1, hb1, hk1⟩
    have hz1 := hb1.size
    have H2 := Lib.hid (write_any B b (acc ++ x) (mL ++ y ++ mR) w1 hs1 (by simp only [ByteArray.size_append]; have e1 : mL.size = 2 := rfl; have e2 : mR.size = 2 := rfl; omega) (by omega))
    have HB1 := Lib.hid hb1
    have HK1 := Lib.hid hk1
    clear hs1 hb1 hk1 H1
    go_wp2_with fail
    refine H2.out.mono ?_; rintro e w2 ⟨rfl, hs2, hb2, hk2⟩
    have HS2 := Lib.hid hs2
    have HB2 := Lib.hid (HB1.out.trans hb2)
    have HK2 := Lib.hid (HK1.out.trans hk2)
    clear hs2 hb2 hk2
    go_wp2_with fail
    go_end0
    exact ⟨rfl, HS2.out, HB2.out, HK2.out⟩
theorem mem_dropWhile {p : UInt8 → Bool} {c : UInt8} (hc : p c = false) : ∀ l : List UInt8, c ∈ l → c ∈ l.dropWhile p
  | a :: r, h => by
    rw [List.dropWhile_cons]
    split
    · rename_i hp
      rcases List.mem_cons.1 h with e | e
      · subst e; rw [hc] at hp; cases hp
      · exact mem_dropWhile hc r e
    · exact h
theorem trim_full (x : ByteArray) : (Lib.trimS x.data.toList [32, 9, 10, 13]).isEmpty = !fullB x := by
  have hcc : ∀ c : UInt8, ([32, 9, 10, 13] : List UInt8).contains c = blankB c := by
    intro c; unfold blankB; simp only [List.contains_cons, List.contains_nil, Bool.or_false]
    cases (c == 32) <;> cases (c == 9) <;> cases (c == 10) <;> cases (c == 13) <;> rfl
  have key : ∀ l : List UInt8, (Lib.trimS l [32, 9, 10, 13]).isEmpty = !(l.any (fun c => !blankB c)) := by
    intro l
    unfold Lib.trimS Lib.trimLeftS Lib.trimRightS
    simp only [hcc]
    cases h : l.any (fun c => !blankB c)
    · have hall : ∀ c ∈ l.reverse, blankB c = true := by
        intro c hc
        have := List.any_eq_false.1 h c (List.mem_reverse.1 hc)
        simpa using this
      have hd : l.reverse.dropWhile (fun c => blankB c) = [] := by
        generalize l.reverse = r at hall
        induction r with
        | nil => rfl
        | cons a r ih =>
          rw [List.dropWhile_cons, if_pos (hall a (by simp))]
          exact ih (fun c hc => hall c (by simp [hc]))
      rw [hd]; rfl
    · obtain ⟨c, hc, hb⟩ := List.any_eq_true.1 h
      have hb' : blankB c = false := by simpa using hb
      have h1 : c ∈ (l.reverse.dropWhile (fun c => blankB c)).reverse := List.mem_reverse.2 (mem_dropWhile hb' _ (List.mem_reverse.2 hc))
      have h2 := mem_dropWhile (p := fun c => blankB c) hb' _ h1
      cases hd : ((l.reverse.dropWhile (fun c => blankB c)).reverse).dropWhile (fun c => blankB c) with
      | nil => rw [hd] at h2; simp at h2
      | cons a r => rfl
  exact key _
set_option maxRecDepth 100000 in
set_option maxHeartbeats 2000000 in
theorem skelDo_any (b B : Nat) : DoB 25 b B skelF := by
  intro acc x y W h hB hx hy ha
  have hT : Calls Tryd.prog 26 #[.string x, .string ⟨#[32, 9, 10, 13]⟩] W fun e w' => e = .returned (.string ⟨(Lib.trimS x.data.toList [32, 9, 10, 13]).toArray⟩) ∧ Below W.heap.size W w' :=
    Any.strings_Trim_laid Tryd.lays160 (by kernel_rfl) x ⟨#[32, 9, 10, 13]⟩ W (by omega) (by decide) (fun j c hc => by
      have : c ∈ ([32, 9, 10, 13] : List UInt8) := List.mem_of_getElem? hc
      simp at this
      rcases this with rfl | rfl | rfl | rfl <;> decide)
  have hfull := trim_full x
  have HT := Lib.hid hT
  have HS := Lib.hid h
  generalize Lib.trimS x.data.toList [32, 9, 10, 13] = tr at *
  have htl : (ByteArray.mk tr.toArray).toList = tr := by rw [ByteArray.toList_eq]
  have hz0 : W.heap.size ≤ W.heap.size := Nat.le_refl _
  cases hfb : fullB x
  · rw [hfb] at hfull
    have he : tr = [] := by simpa using hfull
    have HF : Hid (skelF acc x y = acc ++ y) := by show _ = _; unfold skelF; rw [hfb]; rfl
    rw [HF.out]
    subst he
    clear hT h hfull hfb htl
    go_enter Tryd.func25, Tryd.ntmps25
    go_wp2_with fail
    refine HT.out.mono ?_; rintro e w1 ⟨rfl, hb1⟩
    have hq1 := Quiet0.of_below hb1
    have hz1 := hq1.size
    have H2 := Lib.hid (write_any B b acc y w1 (HS.out.stay hq1) (by omega) (by omega))
    have HB1 : Hid (Below B W w1) := Lib.hid (Fr.below hq1 hB (fun _ h => h.elim))
    have HK1 : Hid (Kept8 b W w1) := Lib.hid (fun k o hk _ _ => (hq1.block k (lt_of_block hk) (fun h => h)).trans hk)
    clear hb1 hq1
    go_wp2_with fail
    refine H2.out.mono ?_; rintro e w2 ⟨rfl, hs2, hb2, hk2⟩
    have HS2 := Lib.hid hs2
    have HB2 := Lib.hid (HB1.out.trans hb2)
    have HK2 := Lib.hid (HK1.out.trans hk2)
    clear hs2 hb2 hk2
    go_wp2_with fail
    go_end0
    exact ⟨rfl, HS2.out, HB2.out, HK2.out⟩
  · rw [hfb] at hfull
    have hl0 : tr.isEmpty = false := by simpa using hfull
    have hl1 : ¬ tr = [] := by intro e; rw [e] at hl0; cases hl0
    have HF : Hid (skelF acc x y = acc ++ dots ++ y) := by show _ = _; unfold skelF; rw [hfb]; rfl
    rw [HF.out]
    clear hT h hfull hfb
    go_enter Tryd.func25, Tryd.ntmps25
    go_wp2_with fail
    refine HT.out.mono ?_; rintro e w1 ⟨rfl, hb1⟩
    have hq1 := Quiet0.of_below hb1
    have hz1 := hq1.size
    have H2 := Lib.hid (write_any B b acc dots w1 (HS.out.stay hq1) (by have e1 : dots.size = 2 := rfl; omega) (by omega))
    have HB1 : Hid (Below B W w1) := Lib.hid (Fr.below hq1 hB (fun _ h => h.elim))
    have HK1 : Hid (Kept8 b W w1) := Lib.hid (fun k o hk _ _ => (hq1.block k (lt_of_block hk) (fun h => h)).trans hk)
    clear hb1 hq1
    go_wp2_with fail
    refine H2.out.mono ?_; rintro e w2 ⟨rfl, hs2, hb2, hk2⟩
    have hz2 := hb2.size
    have H3 := Lib.hid (write_any B b (acc ++ dots) y w2 hs2 (by simp only [ByteArray.size_append]; have e1 : dots.size = 2 := rfl; omega) (by omega))
    have HB2 := Lib.hid (HB1.out.trans hb2)
    have HK2 := Lib.hid (HK1.out.trans hk2)
    clear hs2 hb2 hk2
    go_wp2_with fail
    refine H3.out.mono ?_; rintro e w3 ⟨rfl, hs3, hb3, hk3⟩
    have HS3 := Lib.hid hs3
    have HB3 := Lib.hid (HB2.out.trans hb3)
    have HK3 := Lib.hid (HK2.out.trans hk3)
    clear hs3 hb3 hk3
    go_wp2_with fail
    go_end0
    exact ⟨rfl, HS3.out, HB3.out, HK3.out⟩
end Go.Proofs.YtdlcakmjihfgfaaDoor
