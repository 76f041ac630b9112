/-
  In which lines marked bytes lie: that the program's way (all lines of each part, then neighbours struck) and the document's (byte by byte) are the same. Plain laws: no condition.
-/
import Derived.Test.YtdlcakmjihfgfaaDoorSlPlain
import Derived.Test.YtdlcakmjihfgfaaDoorSpClipLaw
import Derived.Test.YtdlcakmjihfgfaaDoorSpPlace
import Derived.Lib.SlicesCompact
namespace Go.Proofs.YtdlcakmjihfgfaaDoor
namespace SpanPlain

def cstep (o : List Int) (x : Int) : List Int := if o.getLast? = some x then o else o ++ [x]
theorem cstep_last (o : List Int) (x : Int) : (cstep o x).getLast? = some x := by
  unfold cstep; split
  · assumption
  · simp
theorem cstep_same {o : List Int} {x : Int} (h : o.getLast? = some x) : cstep o x = o := if_pos h
theorem upTo_last (zs : List Int) : ∀ m, m < zs.length → (Lib.compactUpTo zs.toArray (m + 1)).getLast? = some (zs.toArray[m]!)
  | 0, h => by rw [Lib.compactUpTo_succ, Lib.keeps_lt_one _ 0 (by omega)]; simp
  | m + 1, h => by
    have ih := upTo_last zs m (by omega)
    rw [Lib.compactUpTo_succ]
    by_cases e : zs.toArray[m + 1]! = zs.toArray[m]!
    · rw [Lib.keeps_neg (by omega) (show zs.toArray[m + 1]! = zs.toArray[m + 1 - 1]! from e), if_neg (by simp), List.append_nil, ih, e]
    · rw [Lib.keeps_pos (show zs.toArray[m + 1]! ≠ zs.toArray[m + 1 - 1]! from e), if_pos rfl]; simp
theorem upTo_fold (zs : List Int) : ∀ m, m ≤ zs.length → Lib.compactUpTo zs.toArray m = (zs.take m).foldl cstep []
  | 0, _ => by simp [Lib.compactUpTo]
  | m + 1, h => by
    have ih := upTo_fold zs m (by omega)
    have hm : zs[m]? = some (zs.toArray[m]!) := by
      rw [List.getElem?_eq_getElem (by omega), getElem!_pos _ m (by simp; omega)]; simp
    rw [Lib.compactUpTo_succ, List.take_add_one, hm, List.foldl_append, ← ih]
    simp only [Option.toList_some, List.foldl_cons, List.foldl_nil]
    cases m with
    | zero => rw [Lib.keeps_lt_one _ 0 (by omega)]; simp [Lib.compactUpTo, cstep]
    | succ m =>
      have hl := upTo_last zs m (by omega)
      unfold cstep
      rw [hl]
      by_cases e : zs.toArray[m + 1]! = zs.toArray[m]!
      · rw [Lib.keeps_neg (by omega) (show zs.toArray[m + 1]! = zs.toArray[m + 1 - 1]! from e), if_neg (by simp), List.append_nil, if_pos (by rw [e])]
      · rw [Lib.keeps_pos (show zs.toArray[m + 1]! ≠ zs.toArray[m + 1 - 1]! from e), if_pos rfl, if_neg (by intro h; exact e (Option.some.inj h).symm)]
theorem compact_fold (zs : List Int) : Lib.compact zs = zs.foldl cstep [] := by
  unfold Lib.compact
  rw [upTo_fold zs zs.length (Nat.le_refl _), List.take_length]

def lnI (text : ByteArray) (i : Nat) : Int := (lineN text i : Nat) + 1
def seqI (a : Int) (k : Nat) : List Int := (List.range k).map (fun j : Nat => a + (j : Int))
theorem seqI_succ (a : Int) (k : Nat) : seqI a (k + 1) = seqI a k ++ [a + k] := by
  unfold seqI; rw [List.range_succ, List.map_append]; rfl
theorem lnI_step (text : ByteArray) (i : Nat) (h : i < text.size) : lnI text (i + 1) = lnI text i ∨ lnI text (i + 1) = lnI text i + 1 := by
  unfold lnI; rw [lineN_step text i h]; split
  · right; omega
  · left; omega
theorem lnI_mono (text : ByteArray) (a b : Nat) (h : a ≤ b) : b ≤ text.size → lnI text a ≤ lnI text b := by
  induction b, h using leInd with
  | base => intro _; exact Int.le_refl _
  | succ b hb ih =>
    intro hs
    have := ih (by omega)
    rcases lnI_step text b (by omega) with e | e <;> omega
/-- how many lines a part lies in -/
def lnK (text : ByteArray) (s : Nat × Nat) : Nat := (lnI text (s.2 - 1) + 1 - lnI text s.1).toNat
def linesStep (text : ByteArray) (has : Nat → Bool) (o : List Int) (i : Nat) : List Int := if inM text.size has i then cstep o (lnI text i) else o
def partLines (text : ByteArray) (s : Nat × Nat) : List Int := seqI (lnI text s.1) (lnK text s)
theorem foldl_last (o : List Int) (l : List Int) (x : Int) (h : l.getLast? = some x) : (l.foldl cstep o).getLast? = some x := by
  have hne : l ≠ [] := by rintro rfl; simp at h
  rw [List.getLast?_eq_some_getLast hne] at h
  rw [← List.dropLast_concat_getLast hne, List.foldl_append]
  cases h
  exact cstep_last _ _
theorem seqI_last (a : Int) (k : Nat) : (seqI a (k + 1)).getLast? = some (a + k) := by rw [seqI_succ]; simp
theorem lines_none (text : ByteArray) (has : Nat → Bool) (a b : Nat) (h : a ≤ b) (hn : ∀ x, a ≤ x → x < b → has x = false) (o : List Int) : run (linesStep text has) a b o = o := by
  induction b, h using leInd with
  | base => rw [run_same]
  | succ b hab ih =>
    rw [run_succ _ _ _ hab, ih (fun x h1 h2 => hn x h1 (by omega))]
    have e : inM text.size has b = false := by unfold inM; rw [hn b hab (by omega)]; simp
    simp only [linesStep, e, Bool.false_eq_true, if_false]
theorem lines_part (text : ByteArray) (has : Nat → Bool) (a e : Nat) (hae : a < e) (he : e ≤ text.size) (hin : ∀ x, a ≤ x → x < e → has x = true) (o : List Int) :
    run (linesStep text has) a e o = (partLines text (a, e)).foldl cstep o := by
  have key : ∀ b, a + 1 ≤ b → b ≤ e → run (linesStep text has) a b o = (partLines text (a, b)).foldl cstep o := by
    intro b hb
    induction b, hb using leInd with
    | base =>
      intro _
      rw [run_one]
      have h1 : inM text.size has a = true := by unfold inM; rw [hin a (Nat.le_refl _) hae]; simp; omega
      have hk : lnK text (a, a + 1) = 0 + 1 := by unfold lnK; simp only [Nat.add_sub_cancel]; omega
      simp only [linesStep, h1, if_true, partLines, hk, seqI_succ]
      simp [seqI]
    | succ b hab ih =>
      intro hbe
      rw [run_succ _ _ _ (by omega), ih (by omega)]
      have h1 : inM text.size has b = true := by unfold inM; rw [hin b (by omega) (by omega)]; simp; omega
      simp only [linesStep, h1, if_true]
      have hm := lnI_mono text a (b - 1) (by omega) (by omega)
      have hst := lnI_step text (b - 1) (by omega)
      rw [show b - 1 + 1 = b from by omega] at hst
      obtain ⟨k, hk⟩ : ∃ k, lnK text (a, b) = k + 1 := ⟨(lnI text (b - 1) - lnI text a).toNat, by unfold lnK; simp only; omega⟩
      have hkv : lnI text a + (k : Int) = lnI text (b - 1) := by unfold lnK at hk; simp only at hk; omega
      rcases hst with e1 | e1
      · have hk2 : lnK text (a, b + 1) = k + 1 := by unfold lnK at hk ⊢; simp only [Nat.add_sub_cancel] at hk ⊢; rw [e1]; exact hk
        unfold partLines
        simp only
        rw [hk, hk2]
        apply cstep_same
        apply foldl_last
        rw [seqI_last, e1, hkv]
      · have hk2 : lnK text (a, b + 1) = k + 1 + 1 := by unfold lnK at hk ⊢; simp only [Nat.add_sub_cancel] at hk ⊢; rw [e1]; omega
        unfold partLines
        simp only
        rw [hk, hk2, seqI_succ _ (k + 1), List.foldl_append]
        simp only [List.foldl_cons, List.foldl_nil]
        congr 1
        rw [e1]; push_cast; omega
  exact key e hae (Nat.le_refl _)
theorem lines_parts (text : ByteArray) (has : Nat → Bool) : ∀ (c : List (Nat × Nat)) (i : Nat) (o : List Int), i ≤ text.size + 1 → InN i text.size c → Hass i text.size c has →
    run (linesStep text has) i (max i text.size) o = (c.flatMap (partLines text)).foldl cstep o
  | [], i, o, hin, hi, h => by
    have : ∀ x, i ≤ x → x < max i text.size → has x = false := fun x h1 h2 => by rw [← Bool.not_eq_true, h x h1 (by omega)]; simp
    rw [lines_none text has i _ (by omega) this]; rfl
  | s :: c, i, o, hin, hi, h => by
    obtain ⟨p1, p2, p3⟩ := h.parts hi
    have ht := h.tail hi
    obtain ⟨h1, h2, h3, h4⟩ := hi
    have em : max i text.size = text.size := by omega
    rw [em, run_append _ i s.1 _ h1 (by omega), lines_none text has i s.1 h1 p1, run_append _ s.1 s.2 _ (by omega) h3, lines_part text has s.1 s.2 h2 h3 p2, List.flatMap_cons, List.foldl_append]
    by_cases c2 : s.2 < text.size
    · have := lines_parts text has c (s.2 + 1) ((partLines text s).foldl cstep o) (by omega) h4 ht
      rw [show max (s.2 + 1) text.size = text.size from by omega] at this
      rw [run_append _ s.2 (s.2 + 1) _ (by omega) (by omega), lines_none text has s.2 (s.2 + 1) (by omega) (fun x k1 k2 => by
        have : x = s.2 := by omega
        subst this; exact p3 c2)]
      exact this
    · have e : s.2 = text.size := by omega
      have ec : c = [] := by
        cases c with
        | nil => rfl
        | cons t c => obtain ⟨k1, k2, k3, _⟩ := h4; omega
      subst ec
      rw [e, run_same, ← e]; rfl
theorem mark_all (text : ByteArray) (l : List Sp) : run (markStep text (hasN l)) 0 text.size ByteArray.empty = eachF text markF (clipN text.size (rmerge l)) 0 ByteArray.empty :=
  mark_parts text (hasN l) _ 0 0 _ (inN_clip _ l) (hass_clip _ l) (Nat.le_refl _) (Nat.zero_le _) (fun x _ h => by omega) (.inl rfl)

theorem skel_all (text : ByteArray) (l : List Sp) : skelEnd (run (skelStep text (hasN l)) 0 text.size (ByteArray.empty, false)) = eachF text skelF (clipN text.size (rmerge l)) 0 ByteArray.empty :=
  skel_parts text (hasN l) _ 0 0 _ (inN_clip _ l) (hass_clip _ l) (Nat.le_refl _) (Nat.zero_le _) (fun x _ h => by omega)
theorem lines_all (text : ByteArray) (l : List Sp) : run (linesStep text (hasN l)) 0 text.size [] = Lib.compact ((clipN text.size (rmerge l)).flatMap (partLines text)) := by
  have := lines_parts text (hasN l) _ 0 [] (by omega) (inN_clip _ l) (hass_clip _ l)
  rw [compact_fold, ← this]
  congr 1
  try omega
end SpanPlain
end Go.Proofs.YtdlcakmjihfgfaaDoor
