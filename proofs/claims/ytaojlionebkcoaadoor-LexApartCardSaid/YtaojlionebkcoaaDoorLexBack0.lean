/-
  Plain laws on tokens: a text with a line feed between two; tokens printed and read again. No program in sight.
-/
import Derived.Test.YtaojlionebkcoaaDoorLexPlain
namespace Go.Proofs.YtaojlionebkcoaaDoor

theorem runL_app (p : UInt8 → Bool) (l : List UInt8) (d : UInt8) (r : List UInt8) (hd : p d = false) : runL p (l ++ d :: r) = runL p l := by
  induction l with
  | nil => simp [runL, hd]
  | cons c l ih => simp only [List.cons_append, runL]; rw [ih]
theorem runL_take (p : UInt8 → Bool) (l : List UInt8) : runL p (l.take (runL p l)) = runL p l := by
  induction l with
  | nil => rfl
  | cons c l ih =>
    by_cases h : p c = true
    · simp [runL, h, ih]
    · simp [runL, h]
theorem goesOn_drop_app (p : UInt8 → Bool) (l : List UInt8) (n : Nat) (d : UInt8) (r : List UInt8) (hd : p d = false) (hn : n ≤ l.length) : goesOn p ((l ++ d :: r).drop n) = goesOn p (l.drop n) := by
  rw [List.drop_append_of_le_length hn]
  cases h : l.drop n with
  | nil => simp [goesOn, hd]
  | cons a b => simp [goesOn]
def stopB (d : UInt8) : Bool := !innerB d && !(d == 62)
theorem stop_inner {d : UInt8} (h : stopB d = true) : innerB d = false := by unfold stopB at h; revert h; cases innerB d <;> simp
theorem stop_digit {d : UInt8} (h : stopB d = true) : digitB d = false := by have := stop_inner h; revert this; unfold innerB; cases digitB d <;> simp
theorem stop_62 {d : UInt8} (h : stopB d = true) : (d == 62) = false := by unfold stopB at h; revert h; cases d == 62 <;> simp

theorem nextL_app {l : List UInt8} (hl : l ≠ []) {d : UInt8} (r : List UInt8) (hd : stopB d = true) : nextL (l ++ d :: r) = nextL l := by
  cases l with
  | nil => exact absurd rfl hl
  | cons c l =>
    have e1 : runL innerB (c :: l ++ d :: r) = runL innerB (c :: l) := runL_app _ _ _ _ (stop_inner hd)
    have e2 : runL digitB (c :: l ++ d :: r) = runL digitB (c :: l) := runL_app _ _ _ _ (stop_digit hd)
    have k1 := runL_le innerB (c :: l)
    have k2 := runL_le digitB (c :: l)
    have e3 : (c :: l ++ d :: r).take (runL innerB (c :: l)) = (c :: l).take (runL innerB (c :: l)) := List.take_append_of_le_length k1
    have e4 : goesOn innerB ((c :: l ++ d :: r).drop (runL digitB (c :: l))) = goesOn innerB ((c :: l).drop (runL digitB (c :: l))) := goesOn_drop_app _ _ _ _ _ (stop_inner hd) k2
    have e5 : goesOn (fun d => d == 62) (l ++ d :: r) = goesOn (fun d => d == 62) l := by
      have := goesOn_drop_app (fun d => d == 62) l 0 d r (stop_62 hd) (Nat.zero_le _)
      simpa using this
    simp only [List.cons_append] at e1 e2 e3 e4 ⊢
    simp only [nextL, e1, e2, e3, e4, e5]
/-- of a token that is told its own bytes alone are wanted -/
theorem nextL_take {l : List UInt8} (h : (nextL l).2.2 = 0) : nextL (l.take (nextL l).2.1) = nextL l := by
  cases l with
  | nil => simp [nextL] at h
  | cons c r =>
    revert h
    by_cases h1 : smallB c = true
    · have hp : 0 < runL innerB (c :: r) := runL_pos (small_inner h1)
      have ht := runL_take innerB (c :: r)
      obtain ⟨m, hm⟩ : ∃ m, runL innerB (c :: r) = m + 1 := ⟨runL innerB (c :: r) - 1, by omega⟩
      rw [hm] at ht
      simp only [nextL, h1, if_true, hm]
      intro h
      have hn : (if kwB ((c :: r).take (m + 1)) = true then ((3, m + 1, 0) : Nat × Nat × Nat) else if 20 < m + 1 then (0, 0, 2) else (1, m + 1, 0)).2.1 = m + 1 := by
        revert h; split
        · intro _; rfl
        · split
          · simp
          · intro _; rfl
      rw [hn, List.take_succ_cons]
      rw [List.take_succ_cons] at ht
      simp only [nextL, h1, if_true, ht]
      rw [List.take_succ_cons, List.take_take, Nat.min_self]
    · have h1' : smallB c = false := by simpa using h1
      by_cases h2 : digitB c = true
      · have hp : 0 < runL digitB (c :: r) := runL_pos h2
        have ht := runL_take digitB (c :: r)
        obtain ⟨m, hm⟩ : ∃ m, runL digitB (c :: r) = m + 1 := ⟨runL digitB (c :: r) - 1, by omega⟩
        rw [hm] at ht
        simp only [nextL, h1', h2, if_true, hm, Bool.false_eq_true, if_false]
        intro h
        have hg : goesOn innerB ((c :: r).drop (m + 1)) = false := by
          revert h; cases goesOn innerB ((c :: r).drop (m + 1)) <;> simp
        have hn : (if (decide (1 < m + 1) && c == 48 || goesOn innerB ((c :: r).drop (m + 1))) = true then ((0, 0, 3) : Nat × Nat × Nat) else if 9 < m + 1 then (0, 0, 2) else (2, m + 1, 0)).2.1 = m + 1 := by
          revert h; split
          · simp
          · split
            · simp
            · intro _; rfl
        rw [hn, List.take_succ_cons]
        rw [List.take_succ_cons] at ht
        have hd : goesOn innerB ((c :: List.take m r).drop (m + 1)) = false := by
          have : (c :: List.take m r).drop (m + 1) = [] := by
            rw [List.drop_eq_nil_iff]; simp; omega
          rw [this]; rfl
        simp only [nextL, h1', h2, if_true, ht, Bool.false_eq_true, if_false, hd, hg]
      · have h2' : digitB c = false := by simpa using h2
        simp only [nextL, h1', h2', Bool.false_eq_true, if_false]
        by_cases h3 : signB c = true
        · simp [nextL, h1', h2', h3]
        · have h3' : signB c = false := by simpa using h3
          simp only [h3', Bool.false_eq_true, if_false]
          by_cases h4 : (c == 45 && goesOn (fun d => d == 62) r) = true
          · cases r with
            | nil => simp [goesOn] at h4
            | cons d r =>
              have h4' : (c == 45 && goesOn (fun d => d == 62) [d]) = true := by simpa [goesOn] using h4
              simp [nextL, h1', h2', h3', h4, h4']
          · simp [h4]
/-- what is told has a kind -/
theorem nextL_kind {l : List UInt8} (h : (nextL l).2.2 = 0) : 1 ≤ (nextL l).1 ∧ (nextL l).1 ≤ 4 := by
  cases l with
  | nil => simp [nextL] at h
  | cons c r =>
    revert h
    simp only [nextL]
    repeat' split
    all_goals simp
/-- the first byte of a token that is told is passed over by nobody -/
theorem nextL_first {c : UInt8} {r : List UInt8} (h : (nextL (c :: r)).2.2 = 0) : blankB c = false ∧ (c == 35) = false := by
  have hb : ∀ x : UInt8, (x == 32 || x == 9 || x == 10 || x == 13 || x == 35) = true → smallB x = false ∧ digitB x = false ∧ signB x = false ∧ (x == 45) = false := by
    intro x hx
    simp at hx
    rcases hx with (((rfl | rfl) | rfl) | rfl) | rfl <;> decide
  by_cases hx : (c == 32 || c == 9 || c == 10 || c == 13 || c == 35) = true
  · obtain ⟨h1, h2, h3, h4⟩ := hb c hx
    simp [nextL, h1, h2, h3, h4] at h
  · have : blankB c = false := by
      revert hx; unfold blankB; cases c == 32 <;> cases c == 9 <;> cases c == 10 <;> cases c == 13 <;> simp
    refine ⟨this, ?_⟩
    revert hx; cases c == 35 <;> simp
theorem skipL_zero {c : UInt8} (r : List UInt8) (h1 : blankB c = false) (h2 : (c == 35) = false) : skipL false (c :: r) = 0 := by simp [skipL, h1, h2]

/-- a line feed between: what is passed over -/
theorem skipL_app : ∀ (b : Bool) (l m : List UInt8), skipL b (l ++ 10 :: m) = if skipL b l = l.length then l.length + 1 + skipL false m else skipL b l
  | b, [], m => by cases b <;> simp [skipL, blankB] <;> omega
  | false, c :: l, m => by
    have i1 := skipL_app false l m
    have i2 := skipL_app true l m
    simp only [List.cons_append, skipL, List.length_cons]
    split
    · rw [i1]; split <;> simp_all; omega
    · split
      · rw [i2]; split <;> simp_all; omega
      · simp
  | true, c :: l, m => by
    have i1 := skipL_app false l m
    have i2 := skipL_app true l m
    simp only [List.cons_append, skipL, List.length_cons]
    split
    · rw [i1]; split <;> simp_all; omega
    · rw [i2]; split <;> simp_all; omega
/-- two texts with a line feed between -/
def joinW (x : Sum (List Tok) (Nat × Nat)) (y : Sum (List Tok) (Nat × Nat)) : Sum (List Tok) (Nat × Nat) :=
  match x with
  | .inl ts => appW ts.dropLast y
  | .inr e => .inr e
theorem wordsA_ne (at' : Nat) (l : List UInt8) (ts : List Tok) (h : wordsA at' l = .inl ts) : ts ≠ [] := by
  by_cases hk : skipL false l = l.length
  · rw [wordsA_end hk] at h; cases h; simp
  · have := skipL_le false l
    by_cases he : (nextL (l.drop (skipL false l))).2.2 = 0
    · rw [wordsA_tok (by omega) he] at h
      revert h; cases wordsA _ _ <;> simp [consW]; intro h; simp [← h]
    · rw [wordsA_bad (by omega) he] at h; cases h
theorem wordsA_app : ∀ (n : Nat) (a b : List UInt8) (at' : Nat), a.length ≤ n → wordsA at' (a ++ 10 :: b) = joinW (wordsA at' a) (wordsA (at' + a.length + 1) b) := by
  intro n
  induction n with
  | zero =>
    intro a b at' ha
    have : a = [] := List.eq_nil_of_length_eq_zero (by omega)
    subst this
    rw [wordsA_end (l := []) rfl]
    rw [wordsA_skip (k := 1) (by simp [skipL, blankB]) (by simp [skipL, blankB])]
    simp [joinW, appW_nil]
  | succ n ih =>
    intro a b at' ha
    have hle := skipL_le false a
    have hs := skipL_app false a b
    by_cases hk : skipL false a = a.length
    · rw [if_pos hk] at hs
      rw [wordsA_end hk]
      have hd : (a ++ 10 :: b).drop (a.length + 1) = b := by rw [List.drop_append]; simp
      rw [wordsA_skip (k := a.length + 1) (by omega) (by rw [hd, hs]; omega), hd]
      simp [joinW, appW_nil, Nat.add_assoc]
    · rw [if_neg hk] at hs
      have hk' : skipL false a < a.length := by omega
      have hd : (a ++ 10 :: b).drop (skipL false a) = a.drop (skipL false a) ++ 10 :: b := List.drop_append_of_le_length hle
      have hne : a.drop (skipL false a) ≠ [] := by
        intro h; have := congrArg List.length h; simp at this; omega
      have hn : nextL (a.drop (skipL false a) ++ 10 :: b) = nextL (a.drop (skipL false a)) := nextL_app hne b (by decide)
      by_cases he : (nextL (a.drop (skipL false a))).2.2 = 0
      · have hlen := nextL_len he
        rw [wordsA_tok hk' he, wordsA_tok (by rw [hs]; simp; omega) (by rw [hs, hd, hn]; exact he)]
        rw [hs, hd, hn, List.take_append_of_le_length hlen.2, List.drop_append_of_le_length hlen.2, ih _ _ _ (by simp only [List.length_drop] at *; omega)]
        have hp : at' + skipL false a + (nextL (a.drop (skipL false a))).2.1 + ((a.drop (skipL false a)).drop (nextL (a.drop (skipL false a))).2.1).length + 1 = at' + a.length + 1 := by
          simp only [List.length_drop] at *; omega
        rw [hp]
        cases hw : wordsA (at' + skipL false a + (nextL (a.drop (skipL false a))).2.1) ((a.drop (skipL false a)).drop (nextL (a.drop (skipL false a))).2.1) with
        | inl ts =>
          have := wordsA_ne _ _ _ hw
          simp only [joinW, consW]
          rw [List.dropLast_cons_of_ne_nil this]
          cases wordsA (at' + a.length + 1) b <;> rfl
        | inr e => rfl
      · rw [wordsA_bad hk' he, wordsA_bad (by rw [hs]; simp; omega) (by rw [hs, hd, hn]; exact he), hs, hd, hn]
        rfl
def Tok.shift (d : Nat) (t : Tok) : Tok := ⟨t.kind, t.text, t.fr + d, t.to + d⟩
def shiftW (d : Nat) : Sum (List Tok) (Nat × Nat) → Sum (List Tok) (Nat × Nat)
  | .inl ts => .inl (ts.map (Tok.shift d))
  | .inr e => .inr (e.1 + d, e.2)
theorem wordsA_shift : ∀ (n : Nat) (l : List UInt8) (at' d : Nat), l.length ≤ n → wordsA (at' + d) l = shiftW d (wordsA at' l) := by
  intro n
  induction n with
  | zero =>
    intro l at' d h
    have : l = [] := List.eq_nil_of_length_eq_zero (by omega)
    subst this
    rw [wordsA_end rfl, wordsA_end rfl]; rfl
  | succ n ih =>
    intro l at' d h
    have hle := skipL_le false l
    by_cases hk : skipL false l = l.length
    · rw [wordsA_end hk, wordsA_end hk]
      simp [shiftW, Tok.shift, endTok]; omega
    · have hk' : skipL false l < l.length := by omega
      by_cases he : (nextL (l.drop (skipL false l))).2.2 = 0
      · have hlen := nextL_len he
        rw [wordsA_tok hk' he, wordsA_tok hk' he]
        have e1 : at' + d + skipL false l + (nextL (l.drop (skipL false l))).2.1 = at' + skipL false l + (nextL (l.drop (skipL false l))).2.1 + d := by omega
        rw [e1, ih _ _ _ (by simp only [List.length_drop] at *; omega)]
        cases wordsA (at' + skipL false l + (nextL (l.drop (skipL false l))).2.1) _ <;> simp [shiftW, consW, Tok.shift]; omega
      · rw [wordsA_bad hk' he, wordsA_bad hk' he]
        simp [shiftW]; omega

/-- tokens as a text -/
def joinL : List (List UInt8) → List UInt8
  | [] => []
  | [t] => t
  | t :: u :: r => t ++ 32 :: joinL (u :: r)
def printL (ts : List Tok) : List UInt8 := joinL ((ts.filter fun t => !(t.kind == 0)).map Tok.text)

/-- a token as one comes: of a kind, and read alone it is itself -/
def Good (t : Tok) : Prop := 1 ≤ t.kind ∧ nextL t.text = (t.kind, t.text.length, 0)

theorem Good.ne {t : Tok} (h : Good t) : t.text ≠ [] := by
  intro e; have := h.2; rw [e] at this; simp [nextL] at this
/-- tokens in a row within a text: each stands where its span says; the last one is the end -/
def Rowed (l : List UInt8) (lo : Nat) : List Tok → Prop
  | [] => False
  | [t] => t = endTok l.length ∧ lo ≤ l.length
  | t :: r => Good t ∧ lo ≤ t.fr ∧ t.fr ≤ t.to ∧ t.to ≤ l.length ∧ t.text = (l.take t.to).drop t.fr ∧ Rowed l t.to r
theorem wordsA_rowed (w : List UInt8) : ∀ (n : Nat) (l : List UInt8) (at' : Nat) (ts : List Tok), l.length ≤ n → l = w.drop at' → at' ≤ w.length → wordsA at' l = .inl ts → Rowed w at' ts := by
  intro n
  induction n with
  | zero =>
    intro l at' ts h hl ha hw
    have : l = [] := List.eq_nil_of_length_eq_zero (by omega)
    rw [this, wordsA_end rfl] at hw
    cases hw
    have : at' = w.length := by rw [this] at hl; have := congrArg List.length hl; simp at this; omega
    exact ⟨by simp [this], ha⟩
  | succ n ih =>
    intro l at' ts h hl ha hw
    have hlw : l.length = w.length - at' := by rw [hl]; simp
    have hle := skipL_le false l
    by_cases hk : skipL false l = l.length
    · rw [wordsA_end hk] at hw; cases hw
      exact ⟨by rw [hlw]; congr 1; omega, ha⟩
    · have hk' : skipL false l < l.length := by omega
      by_cases he : (nextL (l.drop (skipL false l))).2.2 = 0
      · have hlen := nextL_len he
        have hkind := nextL_kind he
        have htk := nextL_take he
        rw [wordsA_tok hk' he] at hw
        revert hw
        cases hr : wordsA (at' + skipL false l + (nextL (l.drop (skipL false l))).2.1) ((l.drop (skipL false l)).drop (nextL (l.drop (skipL false l))).2.1) with
        | inr e => intro hw; cases hw
        | inl us =>
          intro hw
          cases hw
          have hne := wordsA_ne _ _ _ hr
          simp only [List.length_drop] at hlen
          have ih' := ih _ _ us (by simp only [List.length_drop]; omega) (by rw [hl]; simp only [List.drop_drop]) (by omega) hr
          cases us with
          | nil => exact absurd rfl hne
          | cons u us =>
            refine ⟨⟨hkind.1, ?_⟩, by simp, by simp, by simp; omega, ?_, ih'⟩
            · simp only [htk, List.length_take, List.length_drop]
              rw [Nat.min_eq_left (by omega)]
              exact Prod.ext rfl (Prod.ext rfl he)
            · simp only [hl, List.drop_drop, List.drop_take]
              congr 1
              omega
      · rw [wordsA_bad hk' he] at hw; cases hw
/-- good tokens printed, read again -/
def sameTok (a b : Tok) : Prop := a.kind = b.kind ∧ a.text = b.text
theorem good_step {t : Tok} (h : Good t) (r : List UInt8) (hr : r = [] ∨ ∃ r', r = 32 :: r') (at' : Nat) : wordsA at' (t.text ++ r) = consW ⟨t.kind, t.text, at', at' + t.text.length⟩ (wordsA (at' + t.text.length) r) := by
  have hnx : nextL (t.text ++ r) = nextL t.text := by
    rcases hr with rfl | ⟨r', rfl⟩
    · rw [List.append_nil]
    · exact nextL_app h.ne r' (by decide)
  cases ht : t.text with
  | nil => exact absurd ht h.ne
  | cons c u =>
    have hf : (nextL (c :: u)).2.2 = 0 := by rw [← ht, h.2]
    obtain ⟨f1, f2⟩ := nextL_first hf
    have hs : skipL false (c :: u ++ r) = 0 := skipL_zero _ f1 f2
    rw [ht] at hnx
    rw [wordsA_tok (by rw [hs]; simp) (by rw [hs, List.drop_zero, hnx]; exact hf), hs, List.drop_zero, hnx, ← ht, h.2]
    simp
theorem printed_back : ∀ (ts : List Tok) (at' : Nat), (∀ t ∈ ts, Good t) → ∃ us, wordsA at' (joinL (ts.map Tok.text)) = .inl (us ++ [endTok (at' + (joinL (ts.map Tok.text)).length)]) ∧ us.map (fun t => (t.kind, t.text)) = ts.map fun t => (t.kind, t.text) := by
  intro ts
  induction ts with
  | nil => intro at' _; exact ⟨[], wordsA_end rfl, rfl⟩
  | cons t ts ih =>
    intro at' hg
    have ht := hg t (by simp)
    cases ts with
    | nil =>
      refine ⟨[⟨t.kind, t.text, at', at' + t.text.length⟩], ?_, rfl⟩
      have := good_step ht [] (.inl rfl) at'
      rw [List.append_nil, wordsA_end (l := []) rfl] at this
      simpa [joinL, consW] using this
    | cons u ts =>
      obtain ⟨us, h1, h2⟩ := ih (at' + t.text.length + 1) (fun x hx => hg x (by simp at hx ⊢; exact .inr hx))
      refine ⟨⟨t.kind, t.text, at', at' + t.text.length⟩ :: us, ?_, by simp [h2]⟩
      have e := good_step ht (32 :: joinL ((u :: ts).map Tok.text)) (.inr ⟨_, rfl⟩) at'
      have e2 : wordsA (at' + t.text.length) (32 :: joinL ((u :: ts).map Tok.text)) = wordsA (at' + t.text.length + 1) (joinL ((u :: ts).map Tok.text)) := by
        rw [wordsA_skip (k := 1) (by simp [skipL, blankB]) (by simp [skipL, blankB])]; rfl
      rw [e2, h1] at e
      simp only [List.map_cons, joinL, consW] at e ⊢
      rw [e]
      simp only [List.length_append, List.length_cons, List.cons_append]
      congr 5
      omega
theorem rowed_good {w : List UInt8} : ∀ {lo : Nat} {ts : List Tok}, Rowed w lo ts → ∃ us, ts = us ++ [endTok w.length] ∧ ∀ t ∈ us, Good t := by
  intro lo ts
  induction ts generalizing lo with
  | nil => intro h; exact h.elim
  | cons t r ih =>
    cases r with
    | nil => intro h; exact ⟨[], by simp [h.1], by simp⟩
    | cons u r =>
      intro h
      obtain ⟨us, h1, h2⟩ := ih h.2.2.2.2.2
      exact ⟨t :: us, by simp [h1], by intro x hx; simp at hx; rcases hx with rfl | hx; exact h.1; exact h2 x hx⟩
theorem good_filter : ∀ (us : List Tok), (∀ t ∈ us, Good t) → us.filter (fun t => !(t.kind == 0)) = us := by
  intro us h
  rw [List.filter_eq_self]
  intro t ht
  have := (h t ht).1
  simp; omega
/-- tokens that were told, printed and read: as they were, but for their spans -/
theorem words_back (l : List UInt8) (ts : List Tok) (h : wordsL l = .inl ts) : Rowed l 0 ts ∧ ∃ us, wordsL (printL ts) = .inl us ∧ us.map (fun t => (t.kind, t.text)) = ts.map fun t => (t.kind, t.text) := by
  have hr := wordsA_rowed l l.length l 0 ts (Nat.le_refl _) (by simp) (Nat.zero_le _) h
  refine ⟨hr, ?_⟩
  obtain ⟨us, h1, h2⟩ := rowed_good hr
  obtain ⟨vs, h3, h4⟩ := printed_back us 0 h2
  have hp : printL ts = joinL (us.map Tok.text) := by
    unfold printL
    rw [h1, List.filter_append, good_filter us h2]
    simp [endTok]
  refine ⟨_, by rw [hp]; exact h3, ?_⟩
  rw [h1]
  simp [h4, endTok]
end Go.Proofs.YtaojlionebkcoaaDoor
