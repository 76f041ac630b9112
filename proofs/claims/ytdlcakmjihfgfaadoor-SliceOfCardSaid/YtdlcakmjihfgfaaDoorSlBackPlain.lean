/-
  A marked text, read again: how long it is, and what stands where. Plain laws: no condition.
-/
import Derived.Test.YtdlcakmjihfgfaaDoorSlPlain
namespace Go.Proofs.YtdlcakmjihfgfaaDoor
namespace SpanPlain

/-- the marked text from a on -/
def mkT (text : ByteArray) : List (Nat × Nat) → Nat → ByteArray
  | [], a => text.extract a text.size
  | s :: c, a => text.extract a s.1 ++ ((mL ++ text.extract s.1 s.2 ++ mR) ++ mkT text c s.2)
/-- parts from a on, in order -/
def InA (n : Nat) : Nat → List (Nat × Nat) → Prop
  | a, [] => a ≤ n
  | a, s :: r => a ≤ s.1 ∧ s.1 < s.2 ∧ s.2 ≤ n ∧ InA n s.2 r
theorem InN.inA {n : Nat} : ∀ {c : List (Nat × Nat)} {i a : Nat}, InN i n c → a ≤ i → a ≤ n → InA n a c
  | [], _, _, _, _, h => h
  | s :: c, i, a, h, ha, _ => by
    obtain ⟨h1, h2, h3, h4⟩ := h
    exact ⟨by omega, h2, h3, InN.inA h4 (by omega) h3⟩
theorem InA.le {n : Nat} : ∀ {c : List (Nat × Nat)} {a : Nat}, InA n a c → a ≤ n
  | [], _, h => h
  | _ :: _, _, h => by have := h.1; have := h.2.1; have := h.2.2.1; omega
theorem each_mkT (text : ByteArray) : ∀ (c : List (Nat × Nat)) (a : Nat) (acc : ByteArray), InA text.size a c → eachF text markF c a acc = acc ++ mkT text c a
  | [], a, acc, _ => by simp [eachF, markF, mkT]
  | s :: c, a, acc, h => by
    obtain ⟨h1, h2, h3, h4⟩ := h
    simp only [eachF, mkT]
    rw [each_mkT text c s.2 _ h4]
    unfold markF
    rw [if_neg (ext_ne _ _ _ h2 h3)]
    simp only [ByteArray.append_assoc]
theorem mkT_size (text : ByteArray) : ∀ (c : List (Nat × Nat)) (a : Nat), InA text.size a c → (mkT text c a).size + a = text.size + 4 * c.length
  | [], a, h => by have h' : a ≤ text.size := h; simp [mkT]; omega
  | s :: c, a, h => by
    obtain ⟨h1, h2, h3, h4⟩ := h
    have ih := mkT_size text c s.2 h4
    simp only [mkT, ByteArray.size_append, ByteArray.size_extract, List.length_cons]
    have e1 : mL.size = 2 := rfl
    have e2 : mR.size = 2 := rfl
    omega
theorem ba_ext' {a b : ByteArray} (h : a.data.toList = b.data.toList) : a = b := by
  apply ByteArray.ext; apply Array.toList_inj.1; exact h
theorem ext_split (m X Y : ByteArray) (i : Nat) (hi : i ≤ m.size) (h : m.extract i m.size = X ++ Y) :
    i + X.size + Y.size = m.size ∧ m.extract i (i + X.size) = X ∧ m.extract (i + X.size) m.size = Y := by
  have hs : m.size - i = X.size + Y.size := by
    have := congrArg ByteArray.size h
    simp only [ByteArray.size_append, ByteArray.size_extract] at this
    omega
  have hd : m.data.toList.drop i = X.data.toList ++ Y.data.toList := by
    have := congrArg (fun b => b.data.toList) h
    simp only [Lib.extract_data, ByteArray.data_append, Array.toList_append] at this
    rw [List.take_of_length_le (by simp)] at this
    exact this
  have hX : X.data.toList.length = X.size := by simp
  have hY : Y.data.toList.length = Y.size := by simp
  refine ⟨by omega, ba_ext' ?_, ba_ext' ?_⟩
  · rw [Lib.extract_data, hd, show i + X.size - i = X.size from by omega, ← hX, List.take_left]
  · rw [Lib.extract_data, ← List.drop_drop, hd, ← hX, List.drop_left, List.take_of_length_le (by omega)]
/-- between parts: one byte of the text -/
theorem mkT_step (text : ByteArray) {c : List (Nat × Nat)} {a : Nat} (h : InA text.size a c) (hn : a < text.size) (hs : ∀ s r, c = s :: r → a < s.1) :
    mkT text c a = text.extract a (a + 1) ++ mkT text c (a + 1) ∧ InA text.size (a + 1) c := by
  cases c with
  | nil => exact ⟨(ext_add _ _ _ _ (by omega) (by omega)).symm, by show a + 1 ≤ _; omega⟩
  | cons s r =>
    have := hs s r rfl
    obtain ⟨h1, h2, h3, h4⟩ := h
    refine ⟨?_, by omega, h2, h3, h4⟩
    simp only [mkT]
    rw [← ext_add text a (a + 1) s.1 (by omega) (by omega), ByteArray.append_assoc (a := text.extract a (a + 1))]
theorem mkT_part (text : ByteArray) {s : Nat × Nat} {r : List (Nat × Nat)} : mkT text (s :: r) s.1 = (mL ++ text.extract s.1 s.2 ++ mR) ++ mkT text r s.2 := by
  simp only [mkT, ext_same, ByteArray.empty_append]
theorem mkT_ne {text : ByteArray} {c : List (Nat × Nat)} {a : Nat} (h : InA text.size a c) (hs : ∀ s r, c = s :: r → a < s.1) (hp : 0 < (mkT text c a).size) : a < text.size := by
  cases c with
  | nil => simp [mkT] at hp; omega
  | cons s r => have := hs s r rfl; have := h.2.1; have := h.2.2.1; omega
/-- none of the parts has the byte a -/
theorem has_not {n : Nat} {has : Nat → Bool} {c : List (Nat × Nat)} {k a : Nat} (h : Hass 0 n c has) (ha : a < n) (h1 : ∀ s ∈ c.take k, s.2 ≤ a) (h2 : InA n a (c.drop k)) (hs : ∀ s r, c.drop k = s :: r → a < s.1) : has a = false := by
  rw [← Bool.not_eq_true, h a (Nat.zero_le _) ha]
  rintro ⟨s, hm, k1, k2⟩
  rw [← List.take_append_drop k c] at hm
  rcases List.mem_append.1 hm with hm | hm
  · have := h1 s hm; omega
  · have key : ∀ (d : List (Nat × Nat)) (b : Nat), InA n b d → ∀ t ∈ d, b ≤ t.1 := by
      intro d
      induction d with
      | nil => intro b _ t ht; simp at ht
      | cons u d ih =>
        intro b hb t ht
        obtain ⟨q1, q2, q3, q4⟩ := hb
        rcases List.mem_cons.1 ht with e | e
        · subst e; exact q1
        · have := ih _ q4 t e; omega
    cases hd : c.drop k with
    | nil => rw [hd] at hm; simp at hm
    | cons u d =>
      have hu := hs u d hd
      rw [hd] at hm h2
      rcases List.mem_cons.1 hm with e | e
      · subst e; omega
      · obtain ⟨q1, q2, q3, q4⟩ := h2
        have := key _ _ q4 s e; omega
theorem has_start {n : Nat} {has : Nat → Bool} {c : List (Nat × Nat)} {k : Nat} {s : Nat × Nat} {r : List (Nat × Nat)} (h : Hass 0 n c has) (hd : c.drop k = s :: r) (h2 : s.1 < s.2) (h3 : s.2 ≤ n) : has s.1 = true := by
  refine (h s.1 (Nat.zero_le _) (by omega)).2 ⟨s, ?_, Nat.le_refl _, h2⟩
  have : s ∈ c.drop k := by rw [hd]; simp
  exact List.mem_of_mem_drop this
end SpanPlain
end Go.Proofs.YtdlcakmjihfgfaaDoor
