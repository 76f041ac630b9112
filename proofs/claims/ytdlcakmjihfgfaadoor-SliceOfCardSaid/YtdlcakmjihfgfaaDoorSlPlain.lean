/-
  What of a text is marked, its skeleton, its lines: that the program's way (part by part) and the document's (byte by byte) are the same. Plain laws: no condition.
-/
import Derived.Test.YtdlcakmjihfgfaaDoorSpPlain
import Derived.Lib.IndexLaws
namespace Go.Proofs.YtdlcakmjihfgfaaDoor
namespace SpanPlain

/-- what stands between parts, and the parts, handed on one by one -/
def eachF {σ : Type} (text : ByteArray) (f : σ → ByteArray → ByteArray → σ) : List (Nat × Nat) → Nat → σ → σ
  | [], a, st => f st (text.extract a text.size) ByteArray.empty
  | s :: c, a, st => eachF text f c s.2 (f st (text.extract a s.1) (text.extract s.1 s.2))
abbrev mL : ByteArray := ⟨#[194, 171]⟩
abbrev mR : ByteArray := ⟨#[194, 187]⟩
def markF (acc a b : ByteArray) : ByteArray := if b = ByteArray.empty then acc ++ a else acc ++ a ++ (mL ++ b ++ mR)
/-- the document's byte by byte -/
def inM (n : Nat) (has : Nat → Bool) (x : Nat) : Bool := decide (x < n) && has x
def preM (n : Nat) (has : Nat → Bool) (x : Nat) : Bool := decide (0 < x) && inM n has (x - 1)
def markStep (text : ByteArray) (has : Nat → Bool) (acc : ByteArray) (i : Nat) : ByteArray :=
  let a1 := if inM text.size has i && !preM text.size has i then acc ++ mL else acc
  let a2 := a1 ++ text.extract i (i + 1)
  if inM text.size has i && !inM text.size has (i + 1) then a2 ++ mR else a2
theorem mark_none (text : ByteArray) (has : Nat → Bool) (a b : Nat) (h : a ≤ b) (hb : b ≤ text.size) (hn : ∀ x, a ≤ x → x < b → has x = false) (acc : ByteArray) :
    run (markStep text has) a b acc = acc ++ text.extract a b := by
  induction b, h using leInd with
  | base => rw [run_same, ext_same, ByteArray.append_empty]
  | succ b hab ih =>
    rw [run_succ _ _ _ hab, ih (by omega) (fun x h1 h2 => hn x h1 (by omega))]
    have e : inM text.size has b = false := by unfold inM; rw [hn b hab (by omega)]; simp
    simp only [markStep, e, Bool.false_and, Bool.false_eq_true, if_false]
    rw [ByteArray.append_assoc, ext_add _ _ _ _ hab (by omega)]
theorem mark_part (text : ByteArray) (has : Nat → Bool) (a e : Nat) (hae : a < e) (he : e ≤ text.size) (hin : ∀ x, a ≤ x → x < e → has x = true) (hpre : preM text.size has a = false) (hend : inM text.size has e = false) (acc : ByteArray) :
    run (markStep text has) a e acc = acc ++ (mL ++ text.extract a e ++ mR) := by
  have key : ∀ b, a + 1 ≤ b → b ≤ e → run (markStep text has) a b acc = acc ++ (mL ++ text.extract a b ++ (if b = e then mR else ByteArray.empty)) := by
    intro b hb
    induction b, hb using leInd with
    | base =>
      intro _
      rw [run_one]
      have h1 : inM text.size has a = true := by unfold inM; rw [hin a (Nat.le_refl _) hae]; simp; omega
      by_cases hl : a + 1 = e
      · have h2 : inM text.size has (a + 1) = false := by rw [hl]; exact hend
        simp only [markStep, h1, hpre, h2, Bool.not_false, Bool.and_true, if_true]
        rw [if_pos hl]
        simp only [ByteArray.append_assoc]
      · have h2 : inM text.size has (a + 1) = true := by unfold inM; rw [hin (a + 1) (by omega) (by omega)]; simp; omega
        simp only [markStep, h1, hpre, h2, Bool.not_false, Bool.not_true, Bool.and_true, Bool.and_false, if_true, Bool.false_eq_true, if_false]
        rw [if_neg hl]
        simp only [ByteArray.append_assoc, ByteArray.append_empty]
    | succ b hab ih =>
      intro hbe
      rw [run_succ _ _ _ (by omega), ih (by omega), if_neg (by omega)]
      have h1 : inM text.size has b = true := by unfold inM; rw [hin b (by omega) (by omega)]; simp; omega
      have h0 : preM text.size has b = true := by
        unfold preM inM; rw [hin (b - 1) (by omega) (by omega)]; simp; omega
      by_cases hl : b + 1 = e
      · have h2 : inM text.size has (b + 1) = false := by rw [hl]; exact hend
        simp only [markStep, h1, h0, h2, Bool.not_false, Bool.not_true, Bool.and_true, Bool.and_false, if_true, Bool.false_eq_true, if_false]
        rw [if_pos hl]
        simp only [ByteArray.append_assoc, ByteArray.append_empty]
        rw [← ByteArray.append_assoc (a := text.extract a b), ext_add _ _ _ _ (by omega) (by omega)]
      · have h2 : inM text.size has (b + 1) = true := by unfold inM; rw [hin (b + 1) (by omega) (by omega)]; simp; omega
        simp only [markStep, h1, h0, h2, Bool.not_true, Bool.and_false, Bool.false_eq_true, if_false]
        rw [if_neg hl]
        simp only [ByteArray.append_assoc, ByteArray.append_empty]
        rw [ext_add _ _ _ _ (by omega) (by omega)]
  rw [key e hae (Nat.le_refl _), if_pos rfl]
/-- where a part begins none is just before -/
theorem parts_pre {i n a : Nat} {s : Nat × Nat} {has : Nat → Bool} (p1 : ∀ x, i ≤ x → x < s.1 → has x = false) (his : i ≤ s.1) (hsn : s.1 < n) (hai : a ≤ i) (hg : ∀ x, a ≤ x → x < i → x < n → has x = false) (h0 : i = 0 ∨ a < i) : preM n has s.1 = false := by
  unfold preM inM
  by_cases hz : 0 < s.1
  · have : has (s.1 - 1) = false := by
      by_cases hi : i ≤ s.1 - 1
      · exact p1 _ hi (by omega)
      · exact hg _ (by omega) (by omega) (by omega)
    rw [this]; simp
  · simp [hz]
theorem mark_parts (text : ByteArray) (has : Nat → Bool) : ∀ (c : List (Nat × Nat)) (i a : Nat) (acc : ByteArray), InN i text.size c → Hass i text.size c has → a ≤ i → a ≤ text.size → (∀ x, a ≤ x → x < i → x < text.size → has x = false) → (i = 0 ∨ a < i) →
    run (markStep text has) a text.size acc = eachF text markF c a acc
  | [], i, a, acc, hi, h, hai, han, hg, h0 => by
    rw [mark_none text has a text.size han (Nat.le_refl _) (fun x h1 h2 => ?_)]
    · simp [eachF, markF]
    · by_cases hx : x < i
      · exact hg x h1 hx h2
      · rw [← Bool.not_eq_true, h x (by omega) h2]; simp
  | s :: c, i, a, acc, hi, h, hai, han, hg, h0 => by
    obtain ⟨p1, p2, p3⟩ := h.parts hi
    have ht := h.tail hi
    obtain ⟨h1, h2, h3, h4⟩ := hi
    rw [run_append _ a s.1 _ (by omega) (by omega), mark_none text has a s.1 (by omega) (by omega) (fun x k1 k2 => ?_), run_append _ s.1 s.2 _ (by omega) h3,
      mark_part text has s.1 s.2 h2 h3 p2 (parts_pre (n := text.size) p1 h1 (by omega) hai hg h0) (by unfold inM; by_cases c2 : s.2 < text.size <;> simp [c2, p3]) (acc ++ text.extract a s.1)]
    · rw [mark_parts text has c (s.2 + 1) s.2 _ h4 ht (by omega) h3 (fun x k1 k2 k3 => by
        have : x = s.2 := by omega
        subst this; exact p3 k3) (.inr (by omega))]
      simp only [eachF]
      congr 1
      unfold markF
      rw [if_neg (ext_ne _ _ _ h2 h3)]
    · by_cases hx : x < i
      · exact hg x k1 hx (by omega)
      · exact p1 x (by omega) k2
/-- a blank -/
def blankB (c : UInt8) : Bool := c == 32 || c == 9 || c == 10 || c == 13
def fullB (b : ByteArray) : Bool := b.data.toList.any (fun c => !blankB c)
abbrev dots : ByteArray := ⟨#[46, 46]⟩
def skelF (acc a b : ByteArray) : ByteArray := (if fullB a then acc ++ dots else acc) ++ b
def byteAt (text : ByteArray) (i : Nat) : UInt8 := text.data.toList.getD i 0
def skelStep (text : ByteArray) (has : Nat → Bool) (st : ByteArray × Bool) (i : Nat) : ByteArray × Bool :=
  if inM text.size has i then ((if st.2 then st.1 ++ dots else st.1) ++ text.extract i (i + 1), false)
  else (st.1, st.2 || !blankB (byteAt text i))
theorem byteAt_get (text : ByteArray) (i : Nat) (h : i < text.size) : byteAt text i = text[i] := by
  unfold byteAt
  rw [List.getD_eq_getElem?_getD, List.getElem?_eq_getElem (by simpa using h)]; rfl
theorem ext_one_data (text : ByteArray) (i : Nat) (h : i < text.size) : (text.extract i (i + 1)).data.toList = [byteAt text i] := by
  rw [Lib.extract_data, byteAt_get _ _ h]
  have hd : text.data.toList.drop i = text[i] :: text.data.toList.drop (i + 1) := List.drop_eq_getElem_cons (by simpa using h)
  rw [hd]
  have : i + 1 - i = 1 := by omega
  rw [this]; rfl
theorem full_add (text : ByteArray) (a b : Nat) (h1 : a ≤ b) (h2 : b < text.size) : fullB (text.extract a (b + 1)) = (fullB (text.extract a b) || !blankB (byteAt text b)) := by
  rw [← ext_add text a b (b + 1) h1 (by omega)]
  unfold fullB
  rw [ByteArray.data_append, Array.toList_append, List.any_append, ext_one_data _ _ h2]
  simp
theorem full_none (text : ByteArray) (a : Nat) : fullB (text.extract a a) = false := by rw [ext_same]; rfl
theorem skel_none (text : ByteArray) (has : Nat → Bool) (a b : Nat) (h : a ≤ b) (hb : b ≤ text.size) (hn : ∀ x, a ≤ x → x < b → has x = false) (acc : ByteArray) :
    run (skelStep text has) a b (acc, false) = (acc, fullB (text.extract a b)) := by
  induction b, h using leInd with
  | base => rw [run_same, full_none]
  | succ b hab ih =>
    rw [run_succ _ _ _ hab, ih (by omega) (fun x h1 h2 => hn x h1 (by omega)), full_add _ _ _ hab (by omega)]
    have e : inM text.size has b = false := by unfold inM; rw [hn b hab (by omega)]; simp
    simp only [skelStep, e, Bool.false_eq_true, if_false]
theorem skel_part (text : ByteArray) (has : Nat → Bool) (a e : Nat) (hae : a < e) (he : e ≤ text.size) (hin : ∀ x, a ≤ x → x < e → has x = true) (acc : ByteArray) (g : Bool) :
    run (skelStep text has) a e (acc, g) = ((if g then acc ++ dots else acc) ++ text.extract a e, false) := by
  have key : ∀ b, a + 1 ≤ b → b ≤ e → run (skelStep text has) a b (acc, g) = ((if g then acc ++ dots else acc) ++ text.extract a b, false) := by
    intro b hb
    induction b, hb using leInd with
    | base =>
      intro _
      rw [run_one]
      have h1 : inM text.size has a = true := by unfold inM; rw [hin a (Nat.le_refl _) hae]; simp; omega
      simp only [skelStep, h1, if_true]
    | succ b hab ih =>
      intro hbe
      rw [run_succ _ _ _ (by omega), ih (by omega)]
      have h1 : inM text.size has b = true := by unfold inM; rw [hin b (by omega) (by omega)]; simp; omega
      simp only [skelStep, h1, if_true, Bool.false_eq_true, if_false]
      rw [ByteArray.append_assoc, ext_add _ _ _ _ (by omega) (by omega)]
  exact key e hae (Nat.le_refl _)
def skelEnd (st : ByteArray × Bool) : ByteArray := if st.2 then st.1 ++ dots else st.1
theorem skel_parts (text : ByteArray) (has : Nat → Bool) : ∀ (c : List (Nat × Nat)) (i a : Nat) (acc : ByteArray), InN i text.size c → Hass i text.size c has → a ≤ i → a ≤ text.size → (∀ x, a ≤ x → x < i → x < text.size → has x = false) →
    skelEnd (run (skelStep text has) a text.size (acc, false)) = eachF text skelF c a acc
  | [], i, a, acc, hi, h, hai, han, hg => by
    rw [skel_none text has a text.size han (Nat.le_refl _) (fun x h1 h2 => ?_)]
    · simp [eachF, skelF, skelEnd]
    · by_cases hx : x < i
      · exact hg x h1 hx h2
      · rw [← Bool.not_eq_true, h x (by omega) h2]; simp
  | s :: c, i, a, acc, hi, h, hai, han, hg => by
    obtain ⟨p1, p2, p3⟩ := h.parts hi
    have ht := h.tail hi
    obtain ⟨h1, h2, h3, h4⟩ := hi
    rw [run_append _ a s.1 _ (by omega) (by omega), skel_none text has a s.1 (by omega) (by omega) (fun x k1 k2 => ?_), run_append _ s.1 s.2 _ (by omega) h3,
      skel_part text has s.1 s.2 h2 h3 p2]
    · rw [skel_parts text has c (s.2 + 1) s.2 _ h4 ht (by omega) h3 (fun x k1 k2 k3 => by
        have : x = s.2 := by omega
        subst this; exact p3 k3)]
      simp only [eachF]
      rfl
    · by_cases hx : x < i
      · exact hg x k1 hx (by omega)
      · exact p1 x (by omega) k2
end SpanPlain
end Go.Proofs.YtdlcakmjihfgfaaDoor
