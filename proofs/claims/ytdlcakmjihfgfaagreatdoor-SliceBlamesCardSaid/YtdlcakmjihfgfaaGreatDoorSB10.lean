/-
  Texts laid together (SlDo, SlBackPlain, SlEach, SlMarked, SlAwake, Ints, SlBlame, TyRefVars0): what each one proves, and its conditions, stands at its head.
-/
import Derived.Shelf.Strings.SlTrimAscii
import Derived.StillTailTactics
import Derived.BigQuiet
import Derived.Deep.QuietTactic
import Derived.IntWalk
import Derived.Deep.AppendLies
import Derived.Test.YtdlcakmjihfgfaaGreatDoorProg
import Derived.Test.YtdlcakmjihfgfaaGreatDoorSB1
import Derived.Test.YtdlcakmjihfgfaaGreatDoorSB2
import Derived.Test.YtdlcakmjihfgfaaGreatDoorSB3
import Derived.Test.YtdlcakmjihfgfaaGreatDoorSB4
import Derived.Test.YtdlcakmjihfgfaaGreatDoorSB5
import Derived.Test.YtdlcakmjihfgfaaGreatDoorSB6
import Derived.Test.YtdlcakmjihfgfaaGreatDoorSB7
import Derived.Test.YtdlcakmjihfgfaaGreatDoorSB8
import Derived.Test.YtdlcakmjihfgfaaGreatDoorSB9
section
/-
  The closures of slice.Marked and slice.Skeleton. Condition: what the builder holds is not too long.
-/
namespace Go.Proofs.YtdlcakmjihfgfaaGreatDoor
open Go.RowKit Go.Shelf SpanPlain

/-- what a closure does with what stands between, and a slice -/
def DoB (g b B : Nat) (f : ByteArray → ByteArray → ByteArray → ByteArray) : Prop := ∀ (acc x y : ByteArray) (W : World), SB B b acc W → B ≤ W.heap.size → x.size ≤ 1000000 → y.size ≤ 1000000 → acc.size ≤ 100000000000000 →
  Calls Tryz.prog g #[.string x, .string y, .pointer (some ⟨b, 0, none⟩)] W fun e w' => e = .returned (.tuple #[]) ∧ SB B b (f acc x y) w' ∧ Below B W w' ∧ Kept8 b W w'
theorem toList_ne {y : ByteArray} (h : y ≠ ByteArray.empty) : y.toList ≠ [] := by
  intro e; apply h
  apply ByteArray.ext; apply Array.ext'; rw [← ByteArray.toList_eq, e]; rfl
set_option maxHeartbeats 2000000 in
theorem markDo_any (b B : Nat) : DoB 21 b B markF := by
  intro acc x y W h hB hx hy ha
  have H1 := Lib.hid (write_any B b acc x W h (by omega) hB)
  clear h
  by_cases hye : y = ByteArray.empty
  · have HF : Hid (markF acc x y = acc ++ x) := if_pos hye
    rw [HF.out]
    subst hye
    go_enter Tryz.func21, Tryz.ntmps21
    go_wp2_with fail
    refine H1.out.mono ?_; rintro e w1 ⟨rfl, hs1, hb1, hk1⟩
    go_wp2_with fail
    go_end0
    exact ⟨rfl, hs1, hb1, hk1⟩
  · have HF : Hid (markF acc x y = acc ++ x ++ (mL ++ y ++ mR)) := if_neg hye
    rw [HF.out]
    have hl0 : y.toList.isEmpty = false := by
      cases hh : y.toList.isEmpty
      · rfl
      · exact absurd (List.isEmpty_iff.1 hh) (toList_ne hye)
    have hl1 : ¬ y.toList = [] := toList_ne hye
    clear hye
    go_enter Tryz.func21, Tryz.ntmps21
    go_wp2_with fail
    refine H1.out.mono ?_; rintro e w1 ⟨rfl, hs1, hb1, hk1⟩
    have hz1 := hb1.size
    have H2 := Lib.hid (write_any B b (acc ++ x) (mL ++ y ++ mR) w1 hs1 (by simp only [ByteArray.size_append]; have e1 : mL.size = 2 := rfl; have e2 : mR.size = 2 := rfl; omega) (by omega))
    have HB1 := Lib.hid hb1
    have HK1 := Lib.hid hk1
    clear hs1 hb1 hk1 H1
    go_wp2_with fail
    refine H2.out.mono ?_; rintro e w2 ⟨rfl, hs2, hb2, hk2⟩
    have HS2 := Lib.hid hs2
    have HB2 := Lib.hid (HB1.out.trans hb2)
    have HK2 := Lib.hid (HK1.out.trans hk2)
    clear hs2 hb2 hk2
    go_wp2_with fail
    go_end0
    exact ⟨rfl, HS2.out, HB2.out, HK2.out⟩
theorem mem_dropWhile {p : UInt8 → Bool} {c : UInt8} (hc : p c = false) : ∀ l : List UInt8, c ∈ l → c ∈ l.dropWhile p
  | a :: r, h => by
    rw [List.dropWhile_cons]
    split
    · rename_i hp
      rcases List.mem_cons.1 h with e | e
      · subst e; rw [hc] at hp; cases hp
      · exact mem_dropWhile hc r e
    · exact h
theorem trim_full (x : ByteArray) : (Lib.trimS x.data.toList [32, 9, 10, 13]).isEmpty = !fullB x := by
  have hcc : ∀ c : UInt8, ([32, 9, 10, 13] : List UInt8).contains c = blankB c := by
    intro c; unfold blankB; simp only [List.contains_cons, List.contains_nil, Bool.or_false]
    cases (c == 32) <;> cases (c == 9) <;> cases (c == 10) <;> cases (c == 13) <;> rfl
  have key : ∀ l : List UInt8, (Lib.trimS l [32, 9, 10, 13]).isEmpty = !(l.any (fun c => !blankB c)) := by
    intro l
    unfold Lib.trimS Lib.trimLeftS Lib.trimRightS
    simp only [hcc]
    cases h : l.any (fun c => !blankB c)
    · have hall : ∀ c ∈ l.reverse, blankB c = true := by
        intro c hc
        have := List.any_eq_false.1 h c (List.mem_reverse.1 hc)
        simpa using this
      have hd : l.reverse.dropWhile (fun c => blankB c) = [] := by
        generalize l.reverse = r at hall
        induction r with
        | nil => rfl
        | cons a r ih =>
          rw [List.dropWhile_cons, if_pos (hall a (by simp))]
          exact ih (fun c hc => hall c (by simp [hc]))
      rw [hd]; rfl
    · obtain ⟨c, hc, hb⟩ := List.any_eq_true.1 h
      have hb' : blankB c = false := by simpa using hb
      have h1 : c ∈ (l.reverse.dropWhile (fun c => blankB c)).reverse := List.mem_reverse.2 (mem_dropWhile hb' _ (List.mem_reverse.2 hc))
      have h2 := mem_dropWhile (p := fun c => blankB c) hb' _ h1
      cases hd : ((l.reverse.dropWhile (fun c => blankB c)).reverse).dropWhile (fun c => blankB c) with
      | nil => rw [hd] at h2; simp at h2
      | cons a r => rfl
  exact key _
set_option maxRecDepth 100000 in
set_option maxHeartbeats 2000000 in
theorem skelDo_any (b B : Nat) : DoB 24 b B skelF := by
  intro acc x y W h hB hx hy ha
  have hT : Calls Tryz.prog 25 #[.string x, .string ⟨#[32, 9, 10, 13]⟩] W fun e w' => e = .returned (.string ⟨(Lib.trimS x.data.toList [32, 9, 10, 13]).toArray⟩) ∧ Below W.heap.size W w' :=
    Any.strings_Trim_laid Tryz.lays160 (by kernel_rfl) x ⟨#[32, 9, 10, 13]⟩ W (by omega) (by decide) (fun j c hc => by
      have : c ∈ ([32, 9, 10, 13] : List UInt8) := List.mem_of_getElem? hc
      simp at this
      rcases this with rfl | rfl | rfl | rfl <;> decide)
  have hfull := trim_full x
  have HT := Lib.hid hT
  have HS := Lib.hid h
  generalize Lib.trimS x.data.toList [32, 9, 10, 13] = tr at *
  have htl : (ByteArray.mk tr.toArray).toList = tr := by rw [ByteArray.toList_eq]
  have hz0 : W.heap.size ≤ W.heap.size := Nat.le_refl _
  cases hfb : fullB x
  · rw [hfb] at hfull
    have he : tr = [] := by simpa using hfull
    have HF : Hid (skelF acc x y = acc ++ y) := by show _ = _; unfold skelF; rw [hfb]; rfl
    rw [HF.out]
    subst he
    clear hT h hfull hfb htl
    go_enter Tryz.func24, Tryz.ntmps24
    go_wp2_with fail
    refine HT.out.mono ?_; rintro e w1 ⟨rfl, hb1⟩
    have hq1 := Quiet0.of_below hb1
    have hz1 := hq1.size
    have H2 := Lib.hid (write_any B b acc y w1 (HS.out.stay hq1) (by omega) (by omega))
    have HB1 : Hid (Below B W w1) := Lib.hid (Fr.below hq1 hB (fun _ h => h.elim))
    have HK1 : Hid (Kept8 b W w1) := Lib.hid (fun k o hk _ _ => (hq1.block k (lt_of_block hk) (fun h => h)).trans hk)
    clear hb1 hq1
    go_wp2_with fail
    refine H2.out.mono ?_; rintro e w2 ⟨rfl, hs2, hb2, hk2⟩
    have HS2 := Lib.hid hs2
    have HB2 := Lib.hid (HB1.out.trans hb2)
    have HK2 := Lib.hid (HK1.out.trans hk2)
    clear hs2 hb2 hk2
    go_wp2_with fail
    go_end0
    exact ⟨rfl, HS2.out, HB2.out, HK2.out⟩
  · rw [hfb] at hfull
    have hl0 : tr.isEmpty = false := by simpa using hfull
    have hl1 : ¬ tr = [] := by intro e; rw [e] at hl0; cases hl0
    have HF : Hid (skelF acc x y = acc ++ dots ++ y) := by show _ = _; unfold skelF; rw [hfb]; rfl
    rw [HF.out]
    clear hT h hfull hfb
    go_enter Tryz.func24, Tryz.ntmps24
    go_wp2_with fail
    refine HT.out.mono ?_; rintro e w1 ⟨rfl, hb1⟩
    have hq1 := Quiet0.of_below hb1
    have hz1 := hq1.size
    have H2 := Lib.hid (write_any B b acc dots w1 (HS.out.stay hq1) (by have e1 : dots.size = 2 := rfl; omega) (by omega))
    have HB1 : Hid (Below B W w1) := Lib.hid (Fr.below hq1 hB (fun _ h => h.elim))
    have HK1 : Hid (Kept8 b W w1) := Lib.hid (fun k o hk _ _ => (hq1.block k (lt_of_block hk) (fun h => h)).trans hk)
    clear hb1 hq1
    go_wp2_with fail
    refine H2.out.mono ?_; rintro e w2 ⟨rfl, hs2, hb2, hk2⟩
    have hz2 := hb2.size
    have H3 := Lib.hid (write_any B b (acc ++ dots) y w2 hs2 (by simp only [ByteArray.size_append]; have e1 : dots.size = 2 := rfl; omega) (by omega))
    have HB2 := Lib.hid (HB1.out.trans hb2)
    have HK2 := Lib.hid (HK1.out.trans hk2)
    clear hs2 hb2 hk2
    go_wp2_with fail
    refine H3.out.mono ?_; rintro e w3 ⟨rfl, hs3, hb3, hk3⟩
    have HS3 := Lib.hid hs3
    have HB3 := Lib.hid (HB2.out.trans hb3)
    have HK3 := Lib.hid (HK2.out.trans hk3)
    clear hs3 hb3 hk3
    go_wp2_with fail
    go_end0
    exact ⟨rfl, HS3.out, HB3.out, HK3.out⟩
end Go.Proofs.YtdlcakmjihfgfaaGreatDoor
end
section
/-
  A marked text, read again: how long it is, and what stands where. Plain laws: no condition.
-/
namespace Go.Proofs.YtdlcakmjihfgfaaGreatDoor
namespace SpanPlain

/-- the marked text from a on -/
def mkT (text : ByteArray) : List (Nat × Nat) → Nat → ByteArray
  | [], a => text.extract a text.size
  | s :: c, a => text.extract a s.1 ++ ((mL ++ text.extract s.1 s.2 ++ mR) ++ mkT text c s.2)
/-- parts from a on, in order -/
def InA (n : Nat) : Nat → List (Nat × Nat) → Prop
  | a, [] => a ≤ n
  | a, s :: r => a ≤ s.1 ∧ s.1 < s.2 ∧ s.2 ≤ n ∧ InA n s.2 r
theorem InN.inA {n : Nat} : ∀ {c : List (Nat × Nat)} {i a : Nat}, InN i n c → a ≤ i → a ≤ n → InA n a c
  | [], _, _, _, _, h => h
  | s :: c, i, a, h, ha, _ => by
    obtain ⟨h1, h2, h3, h4⟩ := h
    exact ⟨by omega, h2, h3, InN.inA h4 (by omega) h3⟩
theorem InA.le {n : Nat} : ∀ {c : List (Nat × Nat)} {a : Nat}, InA n a c → a ≤ n
  | [], _, h => h
  | _ :: _, _, h => by have := h.1; have := h.2.1; have := h.2.2.1; omega
theorem each_mkT (text : ByteArray) : ∀ (c : List (Nat × Nat)) (a : Nat) (acc : ByteArray), InA text.size a c → eachF text markF c a acc = acc ++ mkT text c a
  | [], a, acc, _ => by simp [eachF, markF, mkT]
  | s :: c, a, acc, h => by
    obtain ⟨h1, h2, h3, h4⟩ := h
    simp only [eachF, mkT]
    rw [each_mkT text c s.2 _ h4]
    unfold markF
    rw [if_neg (ext_ne _ _ _ h2 h3)]
    simp only [ByteArray.append_assoc]
theorem mkT_size (text : ByteArray) : ∀ (c : List (Nat × Nat)) (a : Nat), InA text.size a c → (mkT text c a).size + a = text.size + 4 * c.length
  | [], a, h => by have h' : a ≤ text.size := h; simp [mkT]; omega
  | s :: c, a, h => by
    obtain ⟨h1, h2, h3, h4⟩ := h
    have ih := mkT_size text c s.2 h4
    simp only [mkT, ByteArray.size_append, ByteArray.size_extract, List.length_cons]
    have e1 : mL.size = 2 := rfl
    have e2 : mR.size = 2 := rfl
    omega
theorem ba_ext' {a b : ByteArray} (h : a.data.toList = b.data.toList) : a = b := by
  apply ByteArray.ext; apply Array.toList_inj.1; exact h
theorem ext_split (m X Y : ByteArray) (i : Nat) (hi : i ≤ m.size) (h : m.extract i m.size = X ++ Y) :
    i + X.size + Y.size = m.size ∧ m.extract i (i + X.size) = X ∧ m.extract (i + X.size) m.size = Y := by
  have hs : m.size - i = X.size + Y.size := by
    have := congrArg ByteArray.size h
    simp only [ByteArray.size_append, ByteArray.size_extract] at this
    omega
  have hd : m.data.toList.drop i = X.data.toList ++ Y.data.toList := by
    have := congrArg (fun b => b.data.toList) h
    simp only [Lib.extract_data, ByteArray.data_append, Array.toList_append] at this
    rw [List.take_of_length_le (by simp)] at this
    exact this
  have hX : X.data.toList.length = X.size := by simp
  have hY : Y.data.toList.length = Y.size := by simp
  refine ⟨by omega, ba_ext' ?_, ba_ext' ?_⟩
  · rw [Lib.extract_data, hd, show i + X.size - i = X.size from by omega, ← hX, List.take_left]
  · rw [Lib.extract_data, ← List.drop_drop, hd, ← hX, List.drop_left, List.take_of_length_le (by omega)]
/-- between parts: one byte of the text -/
theorem mkT_step (text : ByteArray) {c : List (Nat × Nat)} {a : Nat} (h : InA text.size a c) (hn : a < text.size) (hs : ∀ s r, c = s :: r → a < s.1) :
    mkT text c a = text.extract a (a + 1) ++ mkT text c (a + 1) ∧ InA text.size (a + 1) c := by
  cases c with
  | nil => exact ⟨(ext_add _ _ _ _ (by omega) (by omega)).symm, by show a + 1 ≤ _; omega⟩
  | cons s r =>
    have := hs s r rfl
    obtain ⟨h1, h2, h3, h4⟩ := h
    refine ⟨?_, by omega, h2, h3, h4⟩
    simp only [mkT]
    rw [← ext_add text a (a + 1) s.1 (by omega) (by omega), ByteArray.append_assoc (a := text.extract a (a + 1))]
theorem mkT_part (text : ByteArray) {s : Nat × Nat} {r : List (Nat × Nat)} : mkT text (s :: r) s.1 = (mL ++ text.extract s.1 s.2 ++ mR) ++ mkT text r s.2 := by
  simp only [mkT, ext_same, ByteArray.empty_append]
theorem mkT_ne {text : ByteArray} {c : List (Nat × Nat)} {a : Nat} (h : InA text.size a c) (hs : ∀ s r, c = s :: r → a < s.1) (hp : 0 < (mkT text c a).size) : a < text.size := by
  cases c with
  | nil => simp [mkT] at hp; omega
  | cons s r => have := hs s r rfl; have := h.2.1; have := h.2.2.1; omega
/-- none of the parts has the byte a -/
theorem has_not {n : Nat} {has : Nat → Bool} {c : List (Nat × Nat)} {k a : Nat} (h : Hass 0 n c has) (ha : a < n) (h1 : ∀ s ∈ c.take k, s.2 ≤ a) (h2 : InA n a (c.drop k)) (hs : ∀ s r, c.drop k = s :: r → a < s.1) : has a = false := by
  rw [← Bool.not_eq_true, h a (Nat.zero_le _) ha]
  rintro ⟨s, hm, k1, k2⟩
  rw [← List.take_append_drop k c] at hm
  rcases List.mem_append.1 hm with hm | hm
  · have := h1 s hm; omega
  · have key : ∀ (d : List (Nat × Nat)) (b : Nat), InA n b d → ∀ t ∈ d, b ≤ t.1 := by
      intro d
      induction d with
      | nil => intro b _ t ht; simp at ht
      | cons u d ih =>
        intro b hb t ht
        obtain ⟨q1, q2, q3, q4⟩ := hb
        rcases List.mem_cons.1 ht with e | e
        · subst e; exact q1
        · have := ih _ q4 t e; omega
    cases hd : c.drop k with
    | nil => rw [hd] at hm; simp at hm
    | cons u d =>
      have hu := hs u d hd
      rw [hd] at hm h2
      rcases List.mem_cons.1 hm with e | e
      · subst e; omega
      · obtain ⟨q1, q2, q3, q4⟩ := h2
        have := key _ _ q4 s e; omega
theorem has_start {n : Nat} {has : Nat → Bool} {c : List (Nat × Nat)} {k : Nat} {s : Nat × Nat} {r : List (Nat × Nat)} (h : Hass 0 n c has) (hd : c.drop k = s :: r) (h2 : s.1 < s.2) (h3 : s.2 ≤ n) : has s.1 = true := by
  refine (h s.1 (Nat.zero_le _) (by omega)).2 ⟨s, ?_, Nat.le_refl _, h2⟩
  have : s ∈ c.drop k := by rw [hd]; simp
  exact List.mem_of_mem_drop this
end SpanPlain
end Go.Proofs.YtdlcakmjihfgfaaGreatDoor
end
section
/-
  slice.each, with a closure that writes on a builder. Conditions: the spans lie in memory as told; there are few; the text is short.
-/
namespace Go.Proofs.YtdlcakmjihfgfaaGreatDoor
open Go.RowKit Go.Shelf SpanPlain

/-- spans of the call's own stay while a builder is written on -/
theorem SpRow.kept {w w' : World} {B n c b : Nat} {o : Option Addr} {l : List Sp} (h : SpRow w B (.slice o n c) l) (hb : b < B) (hk : Kept8 b w w') : SpAt (fun _ => True) w' o l := by
  by_cases h0 : 0 < l.length
  · obtain ⟨g, rfl⟩ := h.some h0
    obtain ⟨⟨cur, hc, h1⟩, h2, _⟩ := h.blk
    have hw : w'.heap[g]? = Option.some (.cells cur 27 (0, 0)) := hk g _ hc (by simp; omega) (fun c fz e => by injection e with e1 e2; exact absurd e2 (by decide))
    exact SpB.slc (c := c) ⟨cur, hw, h1⟩ trivial
  · have : l = [] := List.eq_nil_of_length_eq_zero (by omega)
    subst this; exact SpAt.nil _ _ _
theorem eachF_drop {text : ByteArray} {f : ByteArray → ByteArray → ByteArray → ByteArray} {c : List (Nat × Nat)} {i : Nat} {p : Nat × Nat} (h : c[i]? = some p) (a : Nat) (acc : ByteArray) :
    eachF text f (c.drop i) a acc = eachF text f (c.drop (i + 1)) p.2 (f acc (text.extract a p.1) (text.extract p.1 p.2)) := by
  have hi : i < c.length := (List.getElem?_eq_some_iff.1 h).1
  have he : c[i] = p := (List.getElem?_eq_some_iff.1 h).2
  rw [List.drop_eq_getElem_cons hi, he]; rfl
theorem inA_drop {n : Nat} {c : List (Nat × Nat)} {i a : Nat} {p : Nat × Nat} (h : c[i]? = some p) (hA : InA n a (c.drop i)) : a ≤ p.1 ∧ p.1 < p.2 ∧ p.2 ≤ n ∧ InA n p.2 (c.drop (i + 1)) := by
  have hi : i < c.length := (List.getElem?_eq_some_iff.1 h).1
  have he : c[i] = p := (List.getElem?_eq_some_iff.1 h).2
  rw [List.drop_eq_getElem_cons hi, he] at hA; exact hA
set_option maxRecDepth 100000 in
set_option maxHeartbeats 4000000 in
theorem slEach_any (g b B : Nat) (f : ByteArray → ByteArray → ByteArray → ByteArray) (eg : ∀ args w, (callFunc g args).run Tryz.prog w = .ok (.enter g args) w) (hdo : DoB g b B f) (hf : ∀ acc x y : ByteArray, (f acc x y).size ≤ acc.size + x.size + y.size + 10)
    (text : ByteArray) (l : List Sp) (o : Option Addr) (cap : Nat) (w : World) (R : Nat → Prop) (hs : SpAt R w o l) (hz : l.length ≤ 100000) (hm : (rmerge l).length ≤ 1000000) (hn : text.size ≤ 1000000) (acc0 : ByteArray) (ha0 : acc0.size ≤ 1000000) (hb : SB B b acc0 w) (hbl : b < w.heap.size) (hB : B ≤ w.heap.size) :
    Calls Tryz.prog 20 #[.string text, .slice o l.length cap, .func (.func g) #[] #[.pointer (some ⟨b, 0, none⟩)]] w fun e w' => e = .returned (.tuple #[]) ∧ SB B b (eachF text f (clipN text.size (rmerge l)) 0 acc0) w' ∧ Below B w w' := by
  have hM := insideS_any text l o cap w R hs hz hm
  rw [clipZ_N] at hM
  have HM := Lib.hid hM
  have hcl := clipN_length text.size (rmerge l)
  have hina : InA text.size 0 (clipN text.size (rmerge l)) := (inN_clip text.size l).inA (Nat.le_refl _) (Nat.zero_le _)
  obtain ⟨c, hc⟩ : ∃ c, clipN text.size (rmerge l) = c := ⟨_, rfl⟩
  rw [hc] at HM hcl hina
  rw [hc]
  have hcl2 : c.length ≤ 1000000 := by omega
  obtain ⟨fin, hfin⟩ : ∃ fin, eachF text f c 0 acc0 = fin := ⟨_, rfl⟩
  have HFIN := Lib.hid hfin
  rw [hfin]
  have HL : Hid ((c.map toZ).length = c.length) := List.length_map _
  have HINA := Lib.hid hina
  have HDO := Lib.hid hdo
  have HSZ := Lib.hid hf
  have HSB := Lib.hid hb
  clear hs hM hc hcl hfin hdo hf hina hb
  go_enter Tryz.func20, Tryz.ntmps20
  go_wp2_with fail
  refine HM.out.mono ?_; rintro e w1 ⟨v1, rfl, hr1, hq1⟩
  obtain ⟨o1, c1, rfl, hmx1⟩ := hr1.form
  have HR1 := Lib.hid hr1
  have HQ1 := Lib.hid hq1
  have HSB1 := Lib.hid (HSB.out.stay hq1)
  have hz1 : w.heap.size ≤ w1.heap.size := hq1.size
  have HBW1 : Hid (Below B w w1) := Lib.hid (Fr.below hq1 hB (fun _ h => h.elim))
  rw [HL.out]
  clear hr1 hq1 HM hmx1 HSB
  go_wp2_with fail
  go_loopw [6, 13] (fun u t wr => ∃ (i a : Nat) (acc : ByteArray), t = .int .i64 i ∧ i ≤ c.length ∧ u = .int .i64 a ∧ InA text.size a (c.drop i) ∧ eachF text f (c.drop i) a acc = fin ∧ acc.size ≤ 1000000 + i * 2000010 ∧ SB B b acc wr ∧ Below B w1 wr ∧ Kept8 b w1 wr ∧ w1.heap.size ≤ wr.heap.size) (fun _ t _ => c.length - (intOf t).toNat)
  case atStart => exact ⟨0, 0, acc0, rfl, Nat.zero_le _, rfl, HINA.out, HFIN.out, by omega, HSB1.out, Below.refl _ _, Lib.OthersKept.refl _ _ _, Nat.le_refl _⟩
  case round =>
    obtain ⟨i, a, acc, rfl, hi, rfl, hia, hef, has, hsb, hbw, hkp, hzr⟩ := hrel
    have HIA := Lib.hid hia
    have HEF := Lib.hid hef
    have HSB := Lib.hid hsb
    have HBW := Lib.hid hbw
    have HKP := Lib.hid hkp
    have hasz : acc.size ≤ 100000000000000 := by omega
    by_cases hlt : i < c.length
    · have hlt' : (i : Int) < c.length := by omega
      obtain ⟨p, hp⟩ : ∃ p, c[i]? = some p := ⟨_, List.getElem?_eq_getElem hlt⟩
      obtain ⟨x, y⟩ := p
      obtain ⟨hp1, hp2, hp3, hp4⟩ := inA_drop hp hia
      have hax : a ≤ x := hp1
      have hxy : x < y := hp2
      have hyn : y ≤ text.size := hp3
      have hax' : (a : Int) ≤ x := by omega
      have hxy' : (x : Int) ≤ y := by omega
      have hyn' : (y : Int) ≤ text.size := by omega
      have hxn' : (x : Int) ≤ text.size := by omega
      have HNI := Lib.hid hp4
      have HNE : Hid (eachF text f (c.drop (i + 1)) y (f acc (text.extract a x) (text.extract x y)) = fin) := by
        show _ = _; rw [← HEF.out, eachF_drop hp]
      obtain ⟨g1, off, rfl, _, a0, a1⟩ := HR1.out.kept (by omega) hkp i _ (toZ_get hp)
      have hzx : (text.extract a x).size ≤ 1000000 := by simp; omega
      have hzy : (text.extract x y).size ≤ 1000000 := by simp; omega
      obtain ⟨W0, hW0⟩ : ∃ W0, W0 = wr.alloc (.cells #[.int .i64 x, .int .i64 y] 27) := ⟨_, rfl⟩
      have HB0 : Hid (W0.heap[wr.heap.size]? = some (.cells #[.int .i64 x, .int .i64 y] 27 (0, 0))) := by rw [hW0]; exact heap_alloc_new wr _
      have b0 : W0.cell? ⟨wr.heap.size, 0, none⟩ = some (.int .i64 x) := by rw [cell_of_row _ _ _ _ _ (0, 0) HB0.out]; rfl
      have b1 : W0.cell? ⟨wr.heap.size, 1, none⟩ = some (.int .i64 y) := by rw [cell_of_row _ _ _ _ _ (0, 0) HB0.out]; rfl
      have HQ0 : Hid (Quiet0 wr W0) := by rw [hW0]; exact Quiet0.alloc _ _
      have HK0 : Hid (Kept8 b w1 W0.drew) := by rw [hW0]; exact (hkp.alloc _).drew
      have HBW0 : Hid (Below B w1 W0.drew) := by rw [hW0]; exact (hbw.alloc (by have := hbw.size; omega) _).drew
      have HDC := Lib.hid (HDO.out acc (text.extract a x) (text.extract x y) W0.drew (HSB.out.stay (HQ0.out.trans (Quiet0.drew _))) (by have := HQ0.out.size; show B ≤ W0.heap.size; omega) hzx hzy hasz)
      have hfs : (f acc (text.extract a x) (text.extract x y)).size ≤ 1000000 + (i + 1) * 2000010 := by
        have := HSZ.out acc (text.extract a x) (text.extract x y); omega
      clear hp hp1 hp2 hp3 hp4 hia hef hsb hbw hkp
      go_upto_region 4 with fail
      rw [← hW0]
      clear hW0 a0 a1
      generalize hbk : wr.heap.size = k at *
      have hkb : b < k := by omega
      clear hbk
      refine wp_region_still_tail 12 (by kernel_rfl) (by kernel_rfl) ?_
      simp only [List.take_succ_cons, List.take_zero, List.drop_succ_cons, List.drop_zero]
      change wpStill _ _ (World.drew W0) _ _ _
      repeat still_step
      refine wpStill_nil ?_
      change wpList _ _ _ _ _ (World.drew W0)
      go_wp2_with fail
      refine HDC.out.mono ?_; rintro e w3 ⟨rfl, hsb3, hbw3, hkp3⟩
      have hb3 := hkp3 k _ (show (World.drew W0).heap[k]? = some (.cells #[.int .i64 x, .int .i64 y] 27 (0, 0)) from HB0.out) (by simp; omega) (fun c fz e => by injection e with e1 e2; exact absurd e2 (by decide))
      have d1 : w3.cell? ⟨k, 1, none⟩ = some (.int .i64 y) := by rw [cell_of_row _ _ _ _ _ (0, 0) hb3]; rfl
      have HSB3 := Lib.hid hsb3
      have HBW3 : Hid (Below B w1 w3) := Lib.hid (HBW0.out.trans hbw3)
      have HKP3 : Hid (Kept8 b w1 w3) := Lib.hid (HK0.out.trans hkp3)
      have hz3 : w1.heap.size ≤ w3.heap.size := by
        have h1 : (World.drew W0).heap.size ≤ w3.heap.size := hbw3.size
        have h2 : k < (World.drew W0).heap.size := lt_of_block HB0.out
        omega
      clear b0 b1 hb3 hsb3 hbw3 hkp3 HDC
      go_wp2_with fail
      go_roundw
      case rel => exact ⟨i + 1, y, _, by go_num, by omega, rfl, HNI.out, HNE.out, hfs, HSB3.out, HBW3.out, HKP3.out, hz3⟩
      case measure => simp [intOf]; omega
    · have hlt' : ¬ (i : Int) < c.length := by omega
      have han : (a : Int) ≤ text.size := by have := hia.le; omega
      have hzx : (text.extract a text.size).size ≤ 1000000 := by simp; omega
      have HDC := Lib.hid (HDO.out acc (text.extract a text.size) ⟨#[]⟩ wr hsb (by omega) hzx (by decide) hasz)
      have HNE : Hid (f acc (text.extract a text.size) ⟨#[]⟩ = fin) := by
        show _ = _; rw [← HEF.out, List.drop_of_length_le (by omega)]; rfl
      clear hia hef hsb hbw hkp
      go_wp2_with fail
      refine HDC.out.mono ?_; rintro e w3 ⟨rfl, hsb3, hbw3, hkp3⟩
      rw [HNE.out] at hsb3
      have HSB3 := Lib.hid hsb3
      have HBW3 := Lib.hid (HBW1.out.trans (HBW.out.trans hbw3))
      clear hsb3 hbw3 hkp3
      go_wp2_with fail
      go_end0
      exact ⟨rfl, HSB3.out, HBW3.out⟩
end Go.Proofs.YtdlcakmjihfgfaaGreatDoor
end
section
/-
  slice.Marked and slice.Skeleton. Conditions: the spans lie in memory as told; there are few; the text is short.
-/
namespace Go.Proofs.YtdlcakmjihfgfaaGreatDoor
open Go.RowKit Go.Shelf SpanPlain

theorem mark_grow (acc x y : ByteArray) : (markF acc x y).size ≤ acc.size + x.size + y.size + 10 := by
  unfold markF; split
  · simp only [ByteArray.size_append]; omega
  · simp only [ByteArray.size_append]; have e1 : mL.size = 2 := rfl; have e2 : mR.size = 2 := rfl; omega
theorem skel_grow (acc x y : ByteArray) : (skelF acc x y).size ≤ acc.size + x.size + y.size + 10 := by
  unfold skelF; split
  · simp only [ByteArray.size_append]; have e1 : dots.size = 2 := rfl; omega
  · simp only [ByteArray.size_append]; omega
def StrQ (w : World) (s : ByteArray) (e : Ending) (w' : World) : Prop := e = .returned (.string s) ∧ Quiet0 w w'
set_option maxHeartbeats 1000000 in
theorem marked_any (text : ByteArray) (l : List Sp) (o : Option Addr) (cap : Nat) (w : World) (R : Nat → Prop) (hs : SpAt R w o l) (hz : l.length ≤ 100000) (hn : text.size ≤ 1000000) :
    Calls Tryz.prog 11 #[.string text, .slice o l.length cap] w (StrQ w (eachF text markF (clipN text.size (rmerge l)) 0 ByteArray.empty)) := by
  obtain ⟨W0, hW0⟩ : ∃ W0, W0 = w.alloc (.cells #[.pointer none, .slice none 0 0] 48) := ⟨_, rfl⟩
  have hq0 : Quiet0 w W0 := by rw [hW0]; exact Quiet0.alloc _ _
  have hsb : SB w.heap.size w.heap.size ByteArray.empty W0 := by rw [hW0]; exact SB.new w
  have HE := Lib.hid (slEach_any 21 w.heap.size w.heap.size markF (enters_of Tryz.func21 (by kernel_rfl) rfl) (markDo_any _ _) mark_grow text l o cap W0 R (hs.stay hq0) hz (by have := rmerge_length l; omega) hn ByteArray.empty (by decide) hsb hsb.lt hq0.size)
  have HQ0 := Lib.hid hq0
  clear hs hq0 hsb
  generalize eachF text markF (clipN text.size (rmerge l)) 0 ByteArray.empty = res at *
  go_enter Tryz.func11, Tryz.ntmps11
  go_wp2_with fail
  rw [← hW0]
  refine HE.out.mono ?_; rintro e w1 ⟨rfl, hs1, hb1⟩
  have HS := Lib.hid (string_any _ _ res w1 hs1 (by have := hb1.size; have := HQ0.out.size; omega))
  have HB1 := Lib.hid hb1
  clear hs1 hb1 hW0
  go_wp2_with fail
  refine HS.out.mono ?_; rintro e w2 ⟨rfl, hb2⟩
  have HQ : Hid (Quiet0 w w2) := Lib.hid (Quiet0.of_below ((Fr.below HQ0.out (Nat.le_refl _) (fun _ h => h.elim)).trans (HB1.out.trans hb2)))
  clear hb2
  go_wp2_with fail
  go_ret
  exact ⟨rfl, HQ.out⟩
set_option maxHeartbeats 1000000 in
theorem skeleton_any (text : ByteArray) (l : List Sp) (o : Option Addr) (cap : Nat) (w : World) (R : Nat → Prop) (hs : SpAt R w o l) (hz : l.length ≤ 100000) (hn : text.size ≤ 1000000) :
    Calls Tryz.prog 12 #[.string text, .slice o l.length cap] w (StrQ w (eachF text skelF (clipN text.size (rmerge l)) 0 ByteArray.empty)) := by
  obtain ⟨W0, hW0⟩ : ∃ W0, W0 = w.alloc (.cells #[.pointer none, .slice none 0 0] 48) := ⟨_, rfl⟩
  have hq0 : Quiet0 w W0 := by rw [hW0]; exact Quiet0.alloc _ _
  have hsb : SB w.heap.size w.heap.size ByteArray.empty W0 := by rw [hW0]; exact SB.new w
  have HE := Lib.hid (slEach_any 24 w.heap.size w.heap.size skelF (enters_of Tryz.func24 (by kernel_rfl) rfl) (skelDo_any _ _) skel_grow text l o cap W0 R (hs.stay hq0) hz (by have := rmerge_length l; omega) hn ByteArray.empty (by decide) hsb hsb.lt hq0.size)
  have HQ0 := Lib.hid hq0
  clear hs hq0 hsb
  generalize eachF text skelF (clipN text.size (rmerge l)) 0 ByteArray.empty = res at *
  go_enter Tryz.func12, Tryz.ntmps12
  go_wp2_with fail
  rw [← hW0]
  refine HE.out.mono ?_; rintro e w1 ⟨rfl, hs1, hb1⟩
  have HS := Lib.hid (string_any _ _ res w1 hs1 (by have := hb1.size; have := HQ0.out.size; omega))
  have HB1 := Lib.hid hb1
  clear hs1 hb1 hW0
  go_wp2_with fail
  refine HS.out.mono ?_; rintro e w2 ⟨rfl, hb2⟩
  have HQ : Hid (Quiet0 w w2) := Lib.hid (Quiet0.of_below ((Fr.below HQ0.out (Nat.le_refl _) (fun _ h => h.elim)).trans (HB1.out.trans hb2)))
  clear hb2
  go_wp2_with fail
  go_ret
  exact ⟨rfl, HQ.out⟩
end Go.Proofs.YtdlcakmjihfgfaaGreatDoor
end
section
/-
  The laws' awake of chapter 20. No condition.
-/
namespace Go.Proofs.YtdlcakmjihfgfaaGreatDoor
open Go.RowKit Go.Shelf SpanPlain

theorem sl_one {w : World} {b : Nat} {x y : Int} (h : w.heap[b]? = some (.cells #[.int .i64 x, .int .i64 y] 27 (0, 0))) : SpAt (fun _ => True) w (some ⟨b, 0, none⟩) [(x, y)] := by
  intro j t ht
  have hj : j = 0 := by
    have := (List.getElem?_eq_some_iff.1 ht).1
    simpa using this
  subst hj
  simp at ht
  subst ht
  exact ⟨b, 0, rfl, trivial, by rw [cell_of_row _ _ _ _ _ (0, 0) h]; rfl, by rw [cell_of_row _ _ _ _ _ (0, 0) h]; rfl⟩
theorem wake_mark : eachF ⟨#[102, 32, 120]⟩ markF (clipN (ByteArray.mk #[102, 32, 120]).size (rmerge [(2, 3)])) 0 ByteArray.empty = ⟨#[102, 32, 194, 171, 120, 194, 187]⟩ := by decide +kernel
theorem wake_skel : eachF ⟨#[102, 32, 120]⟩ skelF (clipN (ByteArray.mk #[102, 32, 120]).size (rmerge [(2, 3)])) 0 ByteArray.empty = ⟨#[46, 46, 120]⟩ := by decide +kernel
set_option maxHeartbeats 1000000 in
theorem awakeSl_any (w : World) : Calls Tryz.prog 5 #[] w fun e w' => e = .returned (.bool true) ∧ Quiet0 w w' := by
  have H1 : Hid (∀ W b, W.heap[b]? = some (.cells #[.int .i64 2, .int .i64 3] 27 (0, 0)) → Calls Tryz.prog 11 #[.string ⟨#[102, 32, 120]⟩, .slice (some ⟨b, 0, none⟩) 1 1] W fun e w' => e = .returned (.string ⟨#[102, 32, 194, 171, 120, 194, 187]⟩) ∧ Quiet0 W w') := by
    intro W b h
    have := marked_any ⟨#[102, 32, 120]⟩ [(2, 3)] (some ⟨b, 0, none⟩) 1 W _ (sl_one h) (by decide) (by decide)
    rw [wake_mark] at this; exact this
  have H2 : Hid (∀ W b, W.heap[b]? = some (.cells #[.int .i64 2, .int .i64 3] 27 (0, 0)) → Calls Tryz.prog 12 #[.string ⟨#[102, 32, 120]⟩, .slice (some ⟨b, 0, none⟩) 1 1] W fun e w' => e = .returned (.string ⟨#[46, 46, 120]⟩) ∧ Quiet0 W w') := by
    intro W b h
    have := skeleton_any ⟨#[102, 32, 120]⟩ [(2, 3)] (some ⟨b, 0, none⟩) 1 W _ (sl_one h) (by decide) (by decide)
    rw [wake_skel] at this; exact this
  obtain ⟨W0, hW0⟩ : ∃ W0, W0 = w.alloc (.cells #[.int .i64 2, .int .i64 3] 27) := ⟨_, rfl⟩
  have HB0 : Hid (W0.heap[w.heap.size]? = some (.cells #[.int .i64 2, .int .i64 3] 27 (0, 0))) := by rw [hW0]; exact heap_alloc_new w _
  obtain ⟨W1, hW1⟩ : ∃ W1, W1 = W0.alloc (.cells #[.int .i64 2, .int .i64 3] 27) := ⟨_, rfl⟩
  have HB1 : Hid (W1.heap[W0.heap.size]? = some (.cells #[.int .i64 2, .int .i64 3] 27 (0, 0))) := by rw [hW1]; exact heap_alloc_new W0 _
  have HQ1 : Hid (Quiet0 w W1) := by rw [hW1, hW0]; exact (Quiet0.alloc _ _).trans (Quiet0.alloc _ _)
  have HB2 : Hid (W1.heap[w.heap.size]? = some (.cells #[.int .i64 2, .int .i64 3] 27 (0, 0))) := by rw [hW1]; exact blk_after (Quiet0.alloc _ _) HB0.out
  have HZ0 : Hid (W0.heap.size = w.heap.size + 1) := by show _ = _; rw [hW0]; simp
  have hW1' : W1 = (w.alloc (.cells #[.int .i64 2, .int .i64 3] 27)).alloc (.cells #[.int .i64 2, .int .i64 3] 27) := by rw [hW1, hW0]
  rw [HZ0.out] at HB1
  clear hW1 hW0
  go_enter Tryz.func5, Tryz.ntmps5
  go_wp2_with fail
  rw [← hW1']
  clear hW1'
  refine (H1.out _ _ HB1.out).mono ?_; rintro e w2 ⟨rfl, hq2⟩
  have hb2 := blk_after hq2 HB2.out
  have d0 : w2.cell? ⟨w.heap.size, 0, none⟩ = some (.int .i64 2) := by rw [cell_of_row _ _ _ _ _ (0, 0) hb2]; rfl
  have d1 : w2.cell? ⟨w.heap.size, 1, none⟩ = some (.int .i64 3) := by rw [cell_of_row _ _ _ _ _ (0, 0) hb2]; rfl
  have HQ2 := Lib.hid (HQ1.out.trans hq2)
  clear hb2 hq2
  obtain ⟨W3, hW3⟩ : ∃ W3, W3 = w2.alloc (.cells #[.int .i64 2, .int .i64 3] 27) := ⟨_, rfl⟩
  have HB3 : Hid (W3.heap[w2.heap.size]? = some (.cells #[.int .i64 2, .int .i64 3] 27 (0, 0))) := by rw [hW3]; exact heap_alloc_new w2 _
  have HQ3 : Hid (Quiet0 w W3) := by rw [hW3]; exact HQ2.out.trans (Quiet0.alloc _ _)
  go_wp2_with fail
  rw [← hW3]
  clear hW3
  refine (H2.out _ _ HB3.out).mono ?_; rintro e w4 ⟨rfl, hq4⟩
  have HQ4 := Lib.hid (HQ3.out.trans hq4)
  clear hq4
  go_wp2_with fail
  go_ret
  exact ⟨rfl, HQ4.out⟩
end Go.Proofs.YtdlcakmjihfgfaaGreatDoor
end
section
/-
  Rows of numbers in memory, the call's own; the documents' Ints (are two rows the same?). Conditions: the rows lie in memory as told; they are short.
-/
namespace Go.Proofs.YtdlcakmjihfgfaaGreatDoor.Li
open Go.RowKit

theorem elemInt : Elem Tryz.prog 33 3 (.int .i64 0) 1 8 :=
  ⟨Tryz.underlying33, by kernel_rfl, by decide, by decide⟩
def ints (l : List Int) : List Value := l.map (Value.int .i64)
theorem ints_app (a b : List Int) : ints (a ++ b) = ints a ++ ints b := by simp [ints]
def IntsAt (w : World) (o : Option Addr) (l : List Int) : Prop := ∀ i x, l[i]? = some x → ∃ b off, o = some ⟨b, off, none⟩ ∧ w.cell? ⟨b, off + i, none⟩ = some (.int .i64 x)
theorem IntsAt.stay {w w' : World} {o : Option Addr} {l : List Int} (h : IntsAt w o l) (hq : Quiet0 w w') : IntsAt w' o l := by
  intro i x hi
  obtain ⟨b, off, ho, hc⟩ := h i x hi
  exact ⟨b, off, ho, hq.at hc⟩
theorem drop_some {α : Type} {l : List α} {k : Nat} {t : α} (h : l[k]? = some t) : l.drop k = t :: l.drop (k + 1) := by
  obtain ⟨hl, rfl⟩ := List.getElem?_eq_some_iff.1 h
  exact List.drop_eq_getElem_cons hl
/-- a row of the call's own -/
structure IntRow (w : World) (B : Nat) (v : Value) (l : List Int) : Prop where
  own : w.ownsRow 0 3 1 v l.length (ints l)
  low : ∀ k, v.ownBlock = some k → B ≤ k
theorem IntRow.nil (w : World) (B : Nat) : IntRow w B (.slice none 0 0) [] := ⟨World.ownsRow_nil _ _ _ _, fun k hk => (by cases hk)⟩
theorem IntRow.stay {w w' : World} {B : Nat} {v : Value} {l : List Int} (h : IntRow w B v l) (hf : Quiet0 w w') : IntRow w' B v l :=
  ⟨ownsRow_fr h.own hf (fun _ _ h => h), h.low⟩
theorem IntRow.fr {S : Nat → Prop} {w w' : World} {B : Nat} {v : Value} {l : List Int} (h : IntRow w B v l) (hf : Fr S w w') (hS : ∀ k, v.ownBlock = some k → ¬ S k) : IntRow w' B v l :=
  ⟨ownsRow_fr h.own hf hS, h.low⟩
theorem IntRow.form {w : World} {B : Nat} {v : Value} {l : List Int} (h : IntRow w B v l) : ∃ o c, v = .slice o l.length c ∧ l.length ≤ maxLen ∧ l.length ≤ c ∧ IntsAt w o l ∧ (0 < l.length → ∃ g, o = some ⟨g, 0, none⟩ ∧ B ≤ g ∧ ∃ cur, w.heap[g]? = some (.cells cur 3 (0, 0))) := by
  rcases h.own.2 with ⟨h1, h2⟩ | ⟨g, cap, cur, rfl, h2, h3, h4, h5, _⟩
  · have e : l = [] := List.eq_nil_of_length_eq_zero h2
    subst e
    exact ⟨none, 0, h1, Nat.zero_le _, Nat.le_refl _, fun j s hs => by simp at hs, fun h => absurd h (by simp)⟩
  · refine ⟨_, cap, rfl, Nat.le_trans h4 h5, h4, fun j x hx => ⟨g, 0, rfl, ?_⟩, fun _ => ⟨g, rfl, h.low g rfl, cur, h3⟩⟩
    have := h.own.cells (g := g) rfl j (.int .i64 x) (by unfold ints; rw [List.getElem?_map, hx]; rfl)
    simpa [Addr.add_lit] using this
theorem IntRow.snoc {W w1 : World} {B : Nat} {v : Value} {l : List Int} {s : Int} {g c : Nat} (hr : IntRow W B v l)
    (ho : w1.ownsRow 0 3 1 (.slice (some ⟨g, 0, none⟩) (l.length + 1) c) (l.length + 1) (ints l ++ #[Value.int .i64 s].toList)) (hg : v.ownBlock = some g ∨ W.heap.size ≤ g) (hB : B ≤ W.heap.size) :
    IntRow w1 B (.slice (some ⟨g, 0, none⟩) (l.length + 1) c) (l ++ [s]) := by
  refine ⟨?_, fun k hk => ?_⟩
  · have e : ints (l ++ [s]) = ints l ++ #[Value.int .i64 s].toList := by simp [ints]
    rw [e, List.length_append]; exact ho
  · simp [Value.ownBlock] at hk
    subst hk
    rcases hg with h | h
    · exact hr.low g h
    · omega
set_option maxHeartbeats 1000000 in
set_option maxRecDepth 100000 in
theorem ints_any (a : Option Addr) (ca : Nat) (b : Option Addr) (cb : Nat) (la lb : List Int) (w : World) (ha : IntsAt w a la) (hb : IntsAt w b lb) (hz : la.length ≤ 1000000) :
    Calls Tryz.prog 8 #[.slice a la.length ca, .slice b lb.length cb] w fun e w' => e = .returned (.bool (la == lb)) ∧ Quiet0 w w' := by
  have HA := Lib.hid ha
  have HB := Lib.hid hb
  clear ha hb
  obtain ⟨res, hres⟩ : ∃ res, res = (la == lb) := ⟨_, rfl⟩
  have HRES := Lib.hid hres
  rw [← hres]
  clear hres
  by_cases hlen : la.length = lb.length
  · have b3 : ((la.length : Int) != (lb.length : Int)) = false := by simp [hlen]
    have HLE := Lib.hid hlen
    go_enter Tryz.func8, Tryz.ntmps8
    go_wp2_with fail
    go_loopw [5] (fun t wr => ∃ (i : Nat), t = .int .i64 i ∧ i ≤ la.length ∧ res = (la.drop i == lb.drop i) ∧ Quiet0 w wr) (fun t _ => la.length - (intOf t).toNat)
    case atStart => exact ⟨0, rfl, Nat.zero_le _, HRES.out, Quiet0.refl _⟩
    case round =>
      obtain ⟨i, rfl, hi, hr, hq⟩ := hrel
      have HR := Lib.hid hr
      have HQ := Lib.hid hq
      clear hr hq
      by_cases hlt : i < la.length
      · have hlt' : (i : Int) < la.length := by omega
        have hltb : (i : Int) < lb.length := by omega
        have hltb' : i < lb.length := by omega
        obtain ⟨x, hx⟩ : ∃ x, la[i]? = some x := ⟨_, List.getElem?_eq_getElem hlt⟩
        obtain ⟨y, hy⟩ : ∃ y, lb[i]? = some y := ⟨_, List.getElem?_eq_getElem hltb'⟩
        obtain ⟨ba, oa, rfl, c1⟩ := HA.out.stay HQ.out i x hx
        obtain ⟨bb, ob, rfl, c2⟩ := HB.out.stay HQ.out i y hy
        have HN : Hid (res = ((x == y) && (la.drop (i + 1) == lb.drop (i + 1)))) := by
          show _ = _
          rw [HR.out, drop_some hx, drop_some hy]; rfl
        clear hx hy
        cases hxy : (x != y)
        · have hxy' : (x == y) = true := by simpa using hxy
          rw [hxy'] at HN
          go_wp2_with fail
          go_quiet (fail)
          go_wp2_with fail
          go_roundw
          case rel => exact ⟨i + 1, by go_num, by omega, by rw [HN.out]; rfl, HQ.out.trans (Quiet0.drewN _ _)⟩
          case measure => simp [intOf]; omega
        · have hxy' : (x == y) = false := by simpa using hxy
          rw [hxy'] at HN
          go_wp2_with fail
          go_quiet (fail)
          go_wp2_with fail
          go_ret
          exact ⟨by rw [HN.out]; rfl, HQ.out.trans (Quiet0.drewN _ _)⟩
      · have hlt' : ¬ (i : Int) < la.length := by omega
        have HY : Hid (res = true) := by
          show _ = _
          rw [HR.out, List.drop_of_length_le (by omega), List.drop_of_length_le (by have := HLE.out; omega)]; rfl
        go_wp2_with fail
        go_ret
        exact ⟨by rw [HY.out]; rfl, HQ.out⟩
  · have b3 : ((la.length : Int) != (lb.length : Int)) = true := by simp; omega
    have HF : Hid (res = false) := by
      show _ = _
      rw [HRES.out]
      cases h : (la == lb)
      · rfl
      · exact absurd (by have := eq_of_beq h; rw [this]) hlen
    go_enter Tryz.func8, Tryz.ntmps8
    go_wp2_with fail
    go_ret
    exact ⟨by rw [HF.out]; rfl, Quiet0.refl _⟩
end Go.Proofs.YtdlcakmjihfgfaaGreatDoor.Li
end
section
/-
  slice.Blamed, and the document's Blamed. Conditions: the term and the spans lie in memory as told; there are few of them; the table of blanks holds what its initialiser lays.
-/
namespace Go.Proofs.YtdlcakmjihfgfaaGreatDoor
open Go.RowKit Go.Shelf SpanPlain

def blS (m : List Sp) (s : Sp) : Bool := decide (s.1 < s.2) && m.any (inP s)
/-- the numbers of those spans, among the first k, that are within -/
def blT (m ss : List Sp) : Nat → List Int
  | 0 => []
  | k + 1 => blT m ss k ++ (if blS m (ss.getD k (0, 0)) then [(k : Int)] else [])
theorem blT_le (m ss : List Sp) : ∀ k, (blT m ss k).length ≤ k
  | 0 => Nat.le_refl _
  | k + 1 => by
    have := blT_le m ss k
    unfold blT
    split <;> simp <;> omega
theorem blT_yes {m ss : List Sp} {k : Nat} {s : Sp} (h : ss[k]? = some s) (hb : blS m s = true) : blT m ss (k + 1) = blT m ss k ++ [(k : Int)] := by
  rw [blT, List.getD_eq_getElem?_getD, h, Option.getD_some, hb]; rfl
theorem blT_no {m ss : List Sp} {k : Nat} {s : Sp} (h : ss[k]? = some s) (hb : blS m s = false) : blT m ss (k + 1) = blT m ss k := by
  rw [blT, List.getD_eq_getElem?_getD, h, Option.getD_some, hb]; simp
theorem rmerge_one {s : Sp} (h : s.1 < s.2) : rmerge [s] = [s] := by
  simp [rmerge, rstep, rins]; omega
def BlQ (w : World) (l : List Int) (e : Ending) (w' : World) : Prop := ∃ o c, e = .returned (.slice o l.length c) ∧ Li.IntsAt w' o l ∧ Quiet0 w w'
theorem within1_any (s : Sp) (b : Nat) (l : List Sp) (p : Option Addr) (pc : Nat) (W : World) (T : Nat → Prop) (h : W.heap[b]? = some (.cells #[.int .i64 s.1, .int .i64 s.2] 27 (0, 0))) (hs : s.1 < s.2) (ht : SpAt T W p l) (hz : l.length ≤ 100000) :
    Calls Tryz.prog 15 #[.slice (some ⟨b, 0, none⟩) 1 1, .slice p l.length pc] W fun e w' => e = .returned (.bool ((rmerge l).any (inP s))) ∧ Quiet0 W w' := by
  have hm : rmerge [s] = [s] := rmerge_one hs
  have := withinS_any [s] l (some ⟨b, 0, none⟩) 1 p pc W _ T (sl_one (x := s.1) (y := s.2) h) ht (by simp) hz (by rw [hm]; simp) (by have := rmerge_length l; omega)
  rw [hm] at this
  simpa [outP] using this
set_option maxRecDepth 100000 in
set_option maxHeartbeats 4000000 in
theorem blamedS_any (h : Nd) (ps : To) (l : List Sp) (o : Option Addr) (cap : Nat) (w : World) (R T : Nat → Prop) (o1 : Option Addr) (l1 c1 : Nat) (o2 : Option Addr) (l2 c2 : Nat) (hs1 : SlcIn R w o1 l1 h.tp) (hs : TSlc R w o2 l2 ps) (hz : ps.size ≤ 100000) (hg : allT GoodH (.cons h ps .nil)) (ht : Lx.Spaces w) (hsp : SpAt T w o l) (hlz : l.length ≤ 100000) (res : List Int)
    (hres : res = if (To.cons h ps .nil).flat.all sndX then blT (rmerge l) (spx (To.cons h ps .nil).flat) (ps.size + 1) else []) :
    Calls Tryz.prog 6 #[tmv h o1 l1 c1 o2 l2 c2, .slice o l.length cap] w (BlQ w res) := by
  have hss : (spx (To.cons h ps .nil).flat).length = ps.size + 1 := by simp [spx, To.flat_length, To.size]
  have HRI : Hid (∀ W, Quiet0 w W → Calls Tryz.prog 13 #[.agg #[.int .i64 h.k, .string h.nm, .int .i64 h.n, .int .i64 h.tk, .int .i64 h.tn, .slice o1 l1 c1, .slice o2 l2 c2, .int .i64 h.fr, .int .i64 h.en]] W fun e w' => e = .returned (.bool ((To.cons h ps .nil).flat.all sndX)) ∧ Quiet0 W w') := fun W hq => rightTm_any h ps W R o1 l1 c1 o2 l2 c2 (hs1.stay hq) (hs.stay hq) hz hg (ht.stay hq)
  have HSN : Hid (∀ W, Quiet0 w W → Calls Tryz.prog 14 #[.agg #[.int .i64 h.k, .string h.nm, .int .i64 h.n, .int .i64 h.tk, .int .i64 h.tn, .slice o1 l1 c1, .slice o2 l2 c2, .int .i64 h.fr, .int .i64 h.en]] W (SpPost W (spx (To.cons h ps .nil).flat))) := fun W hq => spansTm_any h ps W R o1 l1 c1 o2 l2 c2 (hs1.stay hq) (hs.stay hq) hz
  have HWI : Hid (∀ (s : Sp) (b : Nat) (W : World), Quiet0 w W → W.heap[b]? = some (.cells #[.int .i64 s.1, .int .i64 s.2] 27 (0, 0)) → s.1 < s.2 → Calls Tryz.prog 15 #[.slice (some ⟨b, 0, none⟩) 1 1, .slice o l.length cap] W fun e w' => e = .returned (.bool ((rmerge l).any (inP s))) ∧ Quiet0 W w') := fun s b W hq hb hlt => within1_any s b l o cap W T hb hlt (hsp.stay hq) hlz
  have hln : ps.size + 1 ≤ 1000000 := by omega
  generalize (To.cons h ps .nil).flat.all sndX = AA at *
  generalize spx (To.cons h ps .nil).flat = ss at *
  generalize rmerge l = m at *
  have HBX := Lib.hid (fun W hq => box9 w h o1 l1 c1 o2 l2 c2 29 W hq)
  have HRES0 := Lib.hid hres
  clear hs1 hs hg ht hsp hres
  unfold tmv
  go_enter Tryz.func6, Tryz.ntmps6
  go_wp2_with fail
  have HQ0 : Hid (Quiet0 w (w.alloc (.cells (cells9 h o1 l1 c1 o2 l2 c2) 29))) := Quiet0.alloc _ _
  refine (HRI.out _ HQ0.out).mono ?_; rintro e w1 ⟨rfl, hq1⟩
  cases AA
  · have hr : res = [] := HRES0.out
    subst hr
    have HQ1 := Lib.hid (HQ0.out.trans hq1)
    clear hq1
    go_wp2_with fail
    go_ret
    exact ⟨none, 0, rfl, fun j x hx => absurd hx (by simp), HQ1.out⟩
  · have hr : res = blT m ss (ps.size + 1) := HRES0.out
    have HRES := Lib.hid hr
    obtain ⟨b0, b1, b2, b3, b4, b5, b6, b7, b8⟩ := HBX.out w1 hq1
    have HQ1 := Lib.hid (HQ0.out.trans hq1)
    have HSS := Lib.hid hss
    clear hq1 hr HQ0 hss
    go_wp2_with fail
    refine (HSN.out _ HQ1.out).mono ?_; rintro e w2 ⟨v2, rfl, hr2, hq2⟩
    obtain ⟨o3, c3, rfl, hmx3⟩ := hr2.form
    have HR2 := Lib.hid hr2.slc
    have HQ2 := Lib.hid (HQ1.out.trans hq2)
    rw [HSS.out]
    clear hr2 hq2 hmx3 b0 b1 b2 b3 b4 b5 b6 b7 b8
    go_wp2_with fail
    go_loopw [5, 14] (fun v t wr => ∃ (i : Nat) (out : List Int), t = .int .i64 i ∧ i ≤ ps.size + 1 ∧ Li.IntRow wr w2.heap.size v out ∧ out = blT m ss i ∧ Quiet0 w2 wr) (fun _ t _ => ps.size + 1 - (intOf t).toNat)
    case atStart => exact ⟨0, [], rfl, Nat.zero_le _, Li.IntRow.nil _ _, rfl, Quiet0.refl _⟩
    case round =>
      obtain ⟨i, out, rfl, hi, hrow, hout, hq⟩ := hrel
      have hol : out.length ≤ i := by rw [hout]; exact blT_le m ss i
      have HQ := Lib.hid hq
      have HOUT := Lib.hid hout
      by_cases hlt : i < ps.size + 1
      · have hlt' : (i : Int) < ((ps.size + 1 : Nat) : Int) := by omega
        have hlt2 : (i : Int) < (ps.size : Int) + 1 := by omega
        obtain ⟨s, hgs⟩ : ∃ s, ss[i]? = some s := ⟨_, List.getElem?_eq_getElem (by rw [HSS.out]; exact hlt)⟩
        obtain ⟨x, y⟩ := s
        obtain ⟨b, off, rfl, _, a0, a1⟩ := HR2.out.stay hq i _ hgs
        obtain ⟨vo, vc, rfl, hmx, _⟩ := hrow.form
        have HROW := Lib.hid hrow
        by_cases hxy : x < y
        · obtain ⟨W1, hW1⟩ : ∃ W1, W1 = (wr.alloc (.cells #[.int .i64 x, .int .i64 y] 27)).alloc (.cells #[.int .i64 x, .int .i64 y] 27) := ⟨_, rfl⟩
          have HB1 : Hid (W1.heap[wr.heap.size + 1]? = some (.cells #[.int .i64 x, .int .i64 y] 27 (0, 0))) := by
            have := heap_alloc_new (wr.alloc (.cells #[.int .i64 x, .int .i64 y] 27)) (.cells #[.int .i64 x, .int .i64 y] 27)
            show _ = _
            rw [hW1]; simpa using this
          have hqW : Quiet0 wr W1 := by rw [hW1]; exact (Quiet0.alloc _ _).trans (Quiet0.alloc _ _)
          have HQW := Lib.hid (HQ.out.trans hqW)
          have HROW1 := Lib.hid (HROW.out.stay hqW)
          have HC := Lib.hid (HWI.out (x, y) _ W1 (HQ2.out.trans HQW.out) HB1.out hxy)
          obtain ⟨rb, hrb⟩ : ∃ rb, m.any (inP (x, y)) = rb := ⟨_, rfl⟩
          rw [hrb] at HC
          have HBS : Hid (blS m (x, y) = rb) := by show _ = _; unfold blS; rw [hrb]; simp [hxy]
          have HGS := Lib.hid hgs
          clear hgs hq hout hrow hqW hrb hmx
          go_wp2_with fail
          rw [← hW1]
          clear hW1 a0 a1
          refine HC.out.mono ?_; rintro e w3 ⟨rfl, hq3⟩
          have HQ3 := Lib.hid (HQW.out.trans hq3)
          have HROW3 := Lib.hid (HROW1.out.stay hq3)
          clear hq3
          cases rb
          · have HN := Lib.hid (blT_no HGS.out HBS.out)
            go_wp2_with fail
            go_roundw
            case rel => exact ⟨i + 1, out, by go_num, by omega, HROW3.out, by rw [HN.out]; exact HOUT.out, HQ3.out⟩
            case measure => simp [intOf]; omega
          · have HN := Lib.hid (blT_yes HGS.out HBS.out)
            go_wp2_with (at_builtin; refine wpList_append_one w3 rfl (.tmp 30) (.tmp 32) 33 rfl 3 _ 1 8 Li.elemInt (.slice vo out.length vc) out.length (Li.ints out) rfl HROW3.out.own #[.int .i64 i] rfl rfl (by simp [Value.oneCell']) (by unfold maxLen; omega) (by omega) ?_; intro g c' w4 ho hf hg)
            have HR4 : Hid (Li.IntRow w4 w2.heap.size (.slice (some ⟨g, 0, none⟩) (out.length + 1) c') (out ++ [(i : Int)])) := by
              show Li.IntRow _ _ _ _
              exact Li.IntRow.snoc HROW3.out ho hg HQ3.out.size
            have HQ4 : Hid (Quiet0 w2 w4) := Lib.hid (Fr.trans' HQ3.out hf (fun kk hkk h => by have := HROW3.out.low kk h; omega))
            clear ho hf hg
            go_wp2_with fail
            go_roundw
            case rel => exact ⟨i + 1, out ++ [(i : Int)], by go_num, by omega, HR4.out, by rw [HN.out, HOUT.out], HQ4.out⟩
            case measure => simp [intOf]; omega
        · have HN : Hid (blT m ss (i + 1) = blT m ss i) := blT_no hgs (by unfold blS; simp [hxy])
          have hqW : Quiet0 wr (wr.alloc (.cells #[.int .i64 x, .int .i64 y] 27)) := Quiet0.alloc _ _
          have HQW := Lib.hid (HQ.out.trans hqW)
          have HROW1 := Lib.hid (HROW.out.stay hqW)
          clear hgs hq hout hrow hqW hmx
          go_wp2_with fail
          go_roundw
          case rel => exact ⟨i + 1, out, by go_num, by omega, HROW1.out, by rw [HN.out]; exact HOUT.out, HQW.out⟩
          case measure => simp [intOf]; omega
      · have hlt' : ¬ (i : Int) < ((ps.size + 1 : Nat) : Int) := by omega
        have hlt2 : ¬ (i : Int) < (ps.size : Int) + 1 := by omega
        have HE : Hid (out = res) := by show _ = _; rw [hout, HRES.out]; congr 1; omega
        obtain ⟨vo, vc, rfl, hmx, hcap, hat, hblk⟩ := hrow.form
        have HAT := Lib.hid hat
        clear hq hout hrow hat hblk hmx
        go_wp2_with fail
        go_ret
        rw [← HE.out]
        exact ⟨_, _, rfl, HAT.out, HQ2.out.trans HQ.out⟩
/-- within, as the document's loop asks it -/
def qP (s t : Sp) : Bool := decide (s.1 < s.2) && decide (t.1 ≤ s.1) && decide (s.2 ≤ t.2)
theorem qP_any (m : List Sp) (s : Sp) : m.any (qP s) = blS m s := by
  unfold blS
  induction m with
  | nil => simp
  | cons t m ih =>
    rw [List.any_cons, List.any_cons, ih]
    unfold qP inP
    cases decide (s.1 < s.2) <;> simp
theorem any_take {p : Sp → Bool} {m : List Sp} {k : Nat} {t : Sp} (h : m[k]? = some t) : (m.take (k + 1)).any p = ((m.take k).any p || p t) := by
  rw [List.take_add_one, h, List.any_append]; simp
/-- the heads' spans -/
theorem hds_spx (f : To) : (hds f).map (fun h => ((h.fr, h.en) : Sp)) = spx f.flat := by simp [hds, spx]
set_option maxRecDepth 100000 in
set_option maxHeartbeats 4000000 in
theorem refBlamed_any (h : Nd) (ps : To) (l : List Sp) (o : Option Addr) (cap : Nat) (w : World) (R T : Nat → Prop) (o1 : Option Addr) (l1 c1 : Nat) (o2 : Option Addr) (l2 c2 : Nat) (hs : TSlc R w o2 l2 ps) (hz : ps.size ≤ 100000) (hsp : SpAt T w o l) (hlz : l.length ≤ 100000) :
    Calls Tryz.prog 9 #[tmv h o1 l1 c1 o2 l2 c2, .slice o l.length cap] w (BlQ w (blT (rmerge l) (spx (To.cons h ps .nil).flat) (ps.size + 1))) := by
  have hss : (h :: hds ps).length = ps.size + 1 := by simp [hds_length]
  have hsx : spx (To.cons h ps .nil).flat = (h :: hds ps).map (fun h => ((h.fr, h.en) : Sp)) := by rw [← hds_spx, hds_cons]; simp [hds, To.flat]
  have HLI : Hid (∀ W, Quiet0 w W → Calls Tryz.prog 17 #[.agg #[.int .i64 h.k, .string h.nm, .int .i64 h.n, .int .i64 h.tk, .int .i64 h.tn, .slice o1 l1 c1, .slice o2 l2 c2, .int .i64 h.fr, .int .i64 h.en]] W (ListQ W (h :: hds ps))) := fun W hq => refListN_any h ps W R o1 l1 c1 o2 l2 c2 (hs.stay hq) hz
  have HME : Hid (∀ W, Quiet0 w W → Calls Tryz.prog 18 #[.slice o l.length cap] W (SpPost W (rmerge l))) := fun W hq => refMerge_any l o cap W T (hsp.stay hq) hlz
  have HBX := Lib.hid (fun W hq => box9 w h o1 l1 c1 o2 l2 c2 29 W hq)
  have hmz : (rmerge l).length ≤ 100000 := by have := rmerge_length l; omega
  have hln : ps.size + 1 ≤ 1000000 := by omega
  rw [hsx]
  obtain ⟨ss, hss2⟩ : ∃ ss, (h :: hds ps).map (fun h => ((h.fr, h.en) : Sp)) = ss := ⟨_, rfl⟩
  have HSX : Hid (∀ (i : Nat) (hd : Nd), (h :: hds ps)[i]? = some hd → ss[i]? = some (hd.fr, hd.en)) := by intro i hd hi; rw [← hss2, List.getElem?_map, hi]; rfl
  rw [hss2]
  generalize hds ps = hp at *
  generalize h :: hp = hh at *
  generalize rmerge l = m at *
  have HSS := Lib.hid hss
  clear hs hsp hsx hss2 hss
  unfold tmv
  go_enter Tryz.func9, Tryz.ntmps9
  go_wp2_with fail
  have HQ0 : Hid (Quiet0 w (w.alloc (.cells (cells9 h o1 l1 c1 o2 l2 c2) 29))) := Quiet0.alloc _ _
  refine (HLI.out _ HQ0.out).mono ?_; rintro e w1 ⟨o3, c3, xs, rfl, hl1, hq1⟩
  have HQ1 := Lib.hid (HQ0.out.trans hq1)
  have HH1 := Lib.hid hl1.heads
  rw [HSS.out]
  clear hl1 hq1 HBX HLI HQ0
  go_wp2_with fail
  go_loopw [5, 7] (fun v t wr => ∃ (i : Nat) (out : List Int), t = .int .i64 i ∧ i ≤ ps.size + 1 ∧ Li.IntRow wr w1.heap.size v out ∧ out = blT m ss i ∧ Quiet0 w1 wr) (fun _ t _ => ps.size + 1 - (intOf t).toNat)
  case atStart => exact ⟨0, [], rfl, Nat.zero_le _, Li.IntRow.nil _ _, rfl, Quiet0.refl _⟩
  case round =>
    obtain ⟨i, out, rfl, hi, hrow, hout, hq⟩ := hrel
    have hol : out.length ≤ i := by rw [hout]; exact blT_le m ss i
    have HQ := Lib.hid hq
    have HOUT := Lib.hid hout
    by_cases hlt : i < ps.size + 1
    · have hlt' : (i : Int) < ((ps.size + 1 : Nat) : Int) := by omega
      have hlt2 : (i : Int) < (ps.size : Int) + 1 := by omega
      obtain ⟨hd, hgh⟩ : ∃ hd, hh[i]? = some hd := ⟨_, List.getElem?_eq_getElem (by rw [HSS.out]; exact hlt)⟩
      obtain ⟨b, off, p1, m1, d1, p2, m2, d2, rfl, e0, e1, e2, e3, e4, e5, e6, e7, e8⟩ := HH1.out.stay hq i hd hgh
      have HGS := Lib.hid (HSX.out i hd hgh)
      obtain ⟨vo, vc, rfl, hmx, _⟩ := hrow.form
      have HROW := Lib.hid hrow
      generalize hd.fr = x at *
      generalize hd.en = y at *
      obtain ⟨W1, hW1⟩ : ∃ W1, W1 = wr.alloc (.cells #[.int .i64 x, .int .i64 y] 27) := ⟨_, rfl⟩
      have HB1 : Hid (W1.heap[wr.heap.size]? = some (.cells #[.int .i64 x, .int .i64 y] 27 (0, 0))) := by
        show _ = _
        rw [hW1]; exact heap_alloc_new wr _
      have hqW : Quiet0 wr W1 := by rw [hW1]; exact Quiet0.alloc _ _
      have HQW := Lib.hid (HQ.out.trans hqW)
      have HROW1 := Lib.hid (HROW.out.stay hqW)
      clear hgh hq hout hrow hqW hmx e0 e1 e2 e3 e4 e5 e6
      go_wp2_with fail
      rw [← hW1]
      have HNB : Hid (wr.heap.size < W1.heap.size) := by show _ < _; rw [hW1]; simp
      clear hW1 e7 e8
      refine (HME.out _ (HQ1.out.trans HQW.out)).mono ?_; rintro e w3 ⟨v3, rfl, hr3, hq3⟩
      obtain ⟨o4, c4, rfl, _⟩ := hr3.form
      have HR3 := Lib.hid hr3.slc
      have HQ3 := Lib.hid (HQW.out.trans hq3)
      have HROW3 := Lib.hid (HROW1.out.stay hq3)
      have HB3 := Lib.hid (blk_after hq3 HB1.out)
      clear hr3 hq3
      generalize hnb : wr.heap.size = nb at *
      clear hnb
      go_wp2_with fail
      go_loopw [10, 11] (fun v t wx => ∃ (k : Nat) (ab : Bool), t = .int .i64 k ∧ v = .bool ab ∧ k ≤ m.length ∧ ab = (m.take k).any (qP (x, y)) ∧ Quiet0 w3 wx) (fun _ t _ => m.length - (intOf t).toNat)
      case atStart => exact ⟨0, false, rfl, rfl, Nat.zero_le _, rfl, Quiet0.refl _⟩
      case round =>
        obtain ⟨k, ab, rfl, rfl, hk, hab, hqk⟩ := hrel
        have HQK := Lib.hid (HQ3.out.trans hqk)
        have HAB := Lib.hid hab
        have hbk := blk_after hqk HB3.out
        have d0 : wr.cell? ⟨nb, 0, none⟩ = some (.int .i64 x) := by rw [cell_of_row _ _ _ _ _ (0, 0) hbk]; rfl
        have d1 : wr.cell? ⟨nb, 1, none⟩ = some (.int .i64 y) := by rw [cell_of_row _ _ _ _ _ (0, 0) hbk]; rfl
        have HROWK := Lib.hid (HROW3.out.stay hqk)
        by_cases hlk : k < m.length
        · have hlk' : (k : Int) < m.length := by omega
          obtain ⟨t, hgt⟩ : ∃ t, m[k]? = some t := ⟨_, List.getElem?_eq_getElem hlk⟩
          obtain ⟨tx, ty⟩ := t
          obtain ⟨bb, bo, rfl, _, a0, a1⟩ := HR3.out.stay hqk k _ hgt
          have HN := Lib.hid (any_take (p := qP (x, y)) hgt)
          have HQK0 := Lib.hid hqk
          clear hgt hab hbk hqk
          cases ab
          · by_cases hxy : x < y
            · by_cases h1 : tx ≤ x
              · by_cases h2 : y ≤ ty
                · have g0 : decide (x < y) = true := decide_eq_true hxy
                  have g1 : decide (tx ≤ x) = true := decide_eq_true h1
                  have g2 : decide (y ≤ ty) = true := decide_eq_true h2
                  have HF : Hid (qP (x, y) (tx, ty) = true) := by show _ = _; unfold qP; simp [hxy, h1, h2]
                  go_wp2_with fail
                  go_quiet (fail)
                  go_wp2_with fail
                  go_roundw
                  case rel => exact ⟨k + 1, true, by go_num, rfl, by omega, by rw [HN.out, HF.out]; simp, HQK0.out.trans (Quiet0.drewN _ _)⟩
                  case measure => simp [intOf]; omega
                · have g0 : decide (x < y) = true := decide_eq_true hxy
                  have g1 : decide (tx ≤ x) = true := decide_eq_true h1
                  have g2 : decide (y ≤ ty) = false := decide_eq_false h2
                  have HF : Hid (qP (x, y) (tx, ty) = false) := by show _ = _; unfold qP; simp [h2]
                  go_wp2_with fail
                  go_quiet (fail)
                  go_wp2_with fail
                  go_roundw
                  case rel => exact ⟨k + 1, false, by go_num, rfl, by omega, by rw [HN.out, HF.out, ← HAB.out]; rfl, HQK0.out.trans (Quiet0.drewN _ _)⟩
                  case measure => simp [intOf]; omega
              · have g0 : decide (x < y) = true := decide_eq_true hxy
                have g1 : decide (tx ≤ x) = false := decide_eq_false h1
                have HF : Hid (qP (x, y) (tx, ty) = false) := by show _ = _; unfold qP; simp [h1]
                go_wp2_with fail
                go_quiet (fail)
                go_wp2_with fail
                go_roundw
                case rel => exact ⟨k + 1, false, by go_num, rfl, by omega, by rw [HN.out, HF.out, ← HAB.out]; rfl, HQK0.out.trans (Quiet0.drewN _ _)⟩
                case measure => simp [intOf]; omega
            · have g0 : decide (x < y) = false := decide_eq_false hxy
              have HF : Hid (qP (x, y) (tx, ty) = false) := by show _ = _; unfold qP; simp [hxy]
              go_wp2_with fail
              go_quiet (fail)
              go_wp2_with fail
              go_roundw
              case rel => exact ⟨k + 1, false, by go_num, rfl, by omega, by rw [HN.out, HF.out, ← HAB.out]; rfl, HQK0.out.trans (Quiet0.drewN _ _)⟩
              case measure => simp [intOf]; omega
          · go_wp2_with fail
            go_quiet (fail)
            go_wp2_with fail
            go_roundw
            case rel => exact ⟨k + 1, true, by go_num, rfl, by omega, by rw [HN.out, ← HAB.out]; rfl, HQK0.out.trans (Quiet0.drewN _ _)⟩
            case measure => simp [intOf]; omega
        · have hlk' : ¬ (k : Int) < m.length := by omega
          have HBS : Hid (blS m (x, y) = ab) := by
            show _ = _
            rw [← qP_any, hab, List.take_of_length_le (by omega)]
          clear hab hbk hqk d0 d1
          cases ab
          · have HN := Lib.hid (blT_no HGS.out HBS.out)
            go_wp2_with fail
            go_roundw
            case rel => exact ⟨i + 1, out, by go_num, by omega, HROWK.out, by rw [HN.out]; exact HOUT.out, HQK.out⟩
            case measure => simp [intOf]; omega
          · have HN := Lib.hid (blT_yes HGS.out HBS.out)
            go_wp2_with (at_builtin; refine wpList_append_one wr rfl (.tmp 62) (.tmp 64) 33 rfl 3 _ 1 8 Li.elemInt (.slice vo out.length vc) out.length (Li.ints out) rfl HROWK.out.own #[.int .i64 i] rfl rfl (by simp [Value.oneCell']) (by unfold maxLen; omega) (by omega) ?_; intro g c' w4 ho hf hg)
            have HR4 : Hid (Li.IntRow w4 w1.heap.size (.slice (some ⟨g, 0, none⟩) (out.length + 1) c') (out ++ [(i : Int)])) := by
              show Li.IntRow _ _ _ _
              exact Li.IntRow.snoc HROWK.out ho hg HQK.out.size
            have HQ4 : Hid (Quiet0 w1 w4) := Lib.hid (Fr.trans' HQK.out hf (fun kk hkk h => by have := HROWK.out.low kk h; omega))
            clear ho hf hg
            go_wp2_with fail
            go_roundw
            case rel => exact ⟨i + 1, out ++ [(i : Int)], by go_num, by omega, HR4.out, by rw [HN.out, HOUT.out], HQ4.out⟩
            case measure => simp [intOf]; omega
    · have hlt' : ¬ (i : Int) < ((ps.size + 1 : Nat) : Int) := by omega
      have hlt2 : ¬ (i : Int) < (ps.size : Int) + 1 := by omega
      have HE : Hid (out = blT m ss (ps.size + 1)) := by show _ = _; rw [hout]; congr 1; omega
      obtain ⟨vo, vc, rfl, hmx, hcap, hat, hblk⟩ := hrow.form
      have HAT := Lib.hid hat
      clear hq hout hrow hat hblk hmx
      go_wp2_with fail
      go_ret
      rw [← HE.out]
      exact ⟨_, _, rfl, HAT.out, HQ1.out.trans HQ.out⟩
end Go.Proofs.YtdlcakmjihfgfaaGreatDoor
end
section
/-
  The reference's Vars: append of integers, where the order is drawn. Conditions: the rows lie in memory as told; they are short.
-/
namespace Go.Proofs.YtdlcakmjihfgfaaGreatDoor
open Go.RowKit Go.Maps

/-- a slice's integers -/
def IntsV (w : World) (v : Value) (l : List Int) : Prop := ∃ a c, v = .slice a l.length c ∧ IntsAt w a l
theorem IntsV.stay {w w' : World} {v : Value} {l : List Int} (h : IntsV w v l) (hq : Quiet0 w w') : IntsV w' v l := by
  obtain ⟨a, c, rfl, h⟩ := h
  exact ⟨a, c, rfl, h.stay hq⟩
theorem ownsInts_v {w : World} {v : Value} {l : List Int} (h : w.ownsRow 0 3 1 v l.length (ints l)) : IntsV w v l := by
  obtain ⟨a, c, rfl, _, _, h'⟩ := IntRow.at (B := 0) ⟨h, fun _ _ => Nat.zero_le _⟩
  refine ⟨a, c, rfl, fun i x hx => ?_⟩
  obtain ⟨g, rfl, hc⟩ := row_int h' hx
  exact ⟨g, 0, rfl, by simpa using hc⟩
theorem own_empty {w : World} {b : Nat} (h : w.heap[b]? = some (.cells #[] 3 (0, 0))) : w.ownsRow 0 3 1 (.slice (some ⟨b, 0, none⟩) 0 0) ([] : List Int).length (ints []) := by
  refine ⟨rfl, .inr ⟨b, 0, #[], rfl, Nat.zero_le _, h, Nat.le_refl _, Nat.zero_le _, rfl, rfl⟩⟩
theorem run_append_nothing (w : World) (ty : TypeId) (v : Value) (n : Nat) (xs : List Value) (hown : w.ownsRow 0 3 1 v n xs) (hv : v ≠ .slice none 0 0) (o : Option Addr) (c : Nat) :
    (Builtin.append_ #[33, 33] ty #[v, .slice o 0 c]).run Tryz.prog w = .ok v w := by
  rcases hown.2 with ⟨rfl, _⟩ | ⟨g, cap, cur, rfl, _, hg, hc, hm, hs, _⟩
  · exact absurd rfl hv
  · obtain ⟨i0, hi, hz0, hz1, hz2⟩ := info_parts elemInt.info
    have hu := elemInt.under
    cases o <;> simp [Builtin.append_, run_underlying hu, sizeOf, typeInfo, hi, Builtin.lenOf, Builtin.firstCells, loadCells, loadCellsFrom, storeCells, hc]
end Go.Proofs.YtdlcakmjihfgfaaGreatDoor
end
