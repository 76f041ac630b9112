/-
  LexBack, walked: it returns true and turns nothing that was there. Condition: strings.asciiSpace holds what its initialiser lays.
-/
import Derived.Test.YtaojlionebkcoaaDoorLexAwake
import Derived.Test.YtaojlionebkcoaaDoorLexPrint
import Derived.Test.YtaojlionebkcoaaDoorLexBack0
namespace Go.Proofs.YtaojlionebkcoaaDoor
open Go.RowKit

theorem joinL_eq : ∀ xs : List (List UInt8), Lib.join xs [32] = joinL xs
  | [] => rfl
  | [t] => Lib.join_one t [32]
  | t :: u :: r => by
    have ih := joinL_eq (u :: r)
    rw [Lib.join_cons] at ih
    rw [Lib.join_cons]
    simp only [joinL]
    rw [← ih]
    simp [Lib.joinTail]
def gtok (t : Tok) : Int × ByteArray := ((t.kind : Int), toBA t.text)
theorem texts_gtok (ts : List Tok) : (texts (ts.map gtok)).map (·.data.toList) = (ts.filter fun t => !(t.kind == 0)).map Tok.text := by
  unfold texts
  induction ts with
  | nil => rfl
  | cons t r ih =>
    have e : (((gtok t).1 == 0)) = (t.kind == 0) := by unfold gtok; rw [Bool.eq_iff_iff]; simp
    simp only [List.map_cons, List.filter_cons, e]
    cases h : (t.kind == 0)
    · simp only [Bool.not_false, if_true, List.map_cons]; rw [ih]; rfl
    · simp only [Bool.not_true, Bool.false_eq_true, if_false]; exact ih
theorem printG_gtok (ts : List Tok) : printG (ts.map gtok) = printL ts := by
  unfold printG printL
  rw [joinL_eq, texts_gtok]
theorem TokAt.gtoks {w : World} {g : Nat} {ts : List Tok} (h : TokAt w g ts) : GToks w (some ⟨g, 0, none⟩) (ts.map gtok) := by
  intro i t hi
  rw [List.getElem?_map] at hi
  cases ht : ts[i]? with
  | none => rw [ht] at hi; cases hi
  | some u =>
    rw [ht] at hi
    simp at hi
    subst hi
    obtain ⟨h1, h2, h3, h4⟩ := h i u ht
    exact ⟨g, 0, rfl, _, _, by rw [Nat.zero_add]; exact h1, by rw [Nat.zero_add]; exact h2, by rw [Nat.zero_add]; exact h3, by rw [Nat.zero_add]; exact h4⟩
theorem joinL_len : ∀ (t : List UInt8) (r : List (List UInt8)), (joinL (t :: r)).length ≤ t.length + 1 + (joinL r).length
  | t, [] => by simp [joinL]
  | t, u :: r => by simp only [joinL, List.length_append, List.length_cons]; omega
theorem rowed_len {l : List UInt8} : ∀ {lo : Nat} {ts : List Tok}, Rowed l lo ts → (printL ts).length ≤ (l.length - lo) + ts.length := by
  intro lo ts
  induction ts generalizing lo with
  | nil => intro h; exact h.elim
  | cons t r ih =>
    cases r with
    | nil => intro h; rw [h.1]; simp [printL, endTok, joinL]
    | cons u r =>
      intro h
      obtain ⟨hg, h1, h2, h3, h4, h5⟩ := h
      have := ih h5
      have hk : (t.kind == 0) = false := by have := hg.1; simp; omega
      have ht : t.text.length = t.to - t.fr := by rw [h4]; simp; omega
      unfold printL at this ⊢
      rw [List.filter_cons, hk]
      simp only [Bool.not_false, if_true, List.map_cons]
      refine Nat.le_trans (joinL_len _ _) ?_
      simp only [List.length_cons] at this ⊢
      omega
structure RowFact (l : List UInt8) (ts : List Tok) (i : Nat) (t : Tok) : Prop where
  ordered : t.fr ≤ t.to
  inside : t.to ≤ l.length
  text : t.text = (l.take t.to).drop t.fr
  behind : ∀ j u, i = j + 1 → ts[j]? = some u → u.to ≤ t.fr
theorem rowed_at {l : List UInt8} : ∀ {lo : Nat} {ts : List Tok}, Rowed l lo ts → ∀ i t, ts[i]? = some t → RowFact l ts i t ∧ lo ≤ t.fr := by
  intro lo ts
  induction ts generalizing lo with
  | nil => intro h; exact h.elim
  | cons t r ih =>
    cases r with
    | nil =>
      intro h i u hi
      cases i with
      | succ i => simp at hi
      | zero =>
        simp at hi
        subst hi
        obtain ⟨rfl, h2⟩ := h
        exact ⟨⟨Nat.le_refl _, Nat.le_refl _, by simp [endTok], fun j u e => by omega⟩, h2⟩
    | cons u r =>
      intro h i x hi
      obtain ⟨hg, h1, h2, h3, h4, h5⟩ := h
      cases i with
      | zero =>
        simp at hi
        subst hi
        exact ⟨⟨h2, h3, h4, fun j u e => by omega⟩, h1⟩
      | succ i =>
        have hi' : (u :: r)[i]? = some x := by simpa using hi
        obtain ⟨f, hlo⟩ := ih h5 i x hi'
        refine ⟨⟨f.ordered, f.inside, f.text, ?_⟩, by omega⟩
        intro j y e hj
        have e' : i = j := by omega
        subst e'
        cases i with
        | zero =>
          simp at hj
          subst hj
          exact hlo
        | succ i => exact f.behind i y rfl (by simpa using hj)
theorem rowed_last {l : List UInt8} {lo : Nat} {ts : List Tok} (h : Rowed l lo ts) : 0 < ts.length ∧ ts[ts.length - 1]? = some (endTok l.length) := by
  obtain ⟨us, h1, _⟩ := rowed_good h
  rw [h1]
  simp
theorem map_at {ts us : List Tok} (h : us.map (fun t => (t.kind, t.text)) = ts.map fun t => (t.kind, t.text)) {i : Nat} {t : Tok} (hi : ts[i]? = some t) : ∃ u, us[i]? = some u ∧ u.kind = t.kind ∧ u.text = t.text := by
  have := congrArg (·[i]?) h
  simp only [List.getElem?_map, hi, Option.map_some] at this
  cases hu : us[i]? with
  | none => rw [hu] at this; cases this
  | some u =>
    rw [hu] at this
    simp at this
    exact ⟨u, rfl, this.1, this.2⟩
theorem extract_text (s : ByteArray) (a b : Nat) (h : a ≤ b) : s.extract a b = toBA ((s.data.toList.take b).drop a) := by
  apply ba_ext
  rw [Lib.extract_data, toBA_toList, List.drop_take]

set_option maxHeartbeats 1000000 in
theorem lexBack_big (s : ByteArray) (hs : 400 < s.size) (w : World) (ht : Spaces w) : Calls Tryd.prog 5 #[.string s] w fun e w' => e = .returned (.bool true) ∧ Quiet0 w w' := by
  have HT := Lib.hid ht
  clear ht
  have h1 : (400 : Int) < (s.size : Int) := by omega
  go_enter Tryd.func5, Tryd.ntmps5
  go_wp2_with fail
  refine (awake_any _ HT.out).mono ?_; rintro e w1 ⟨rfl, hq⟩
  go_wp2_with fail
  go_ret
  exact ⟨rfl, hq⟩
set_option maxRecDepth 100000 in
set_option maxHeartbeats 1000000 in
theorem lexBack_bad (s : ByteArray) (hs : s.size ≤ 400) (w : World) (ht : Spaces w) (p : Nat × Nat) (hw : wordsL s.data.toList = .inr p) (hp : p.2 ≠ 0) : Calls Tryd.prog 5 #[.string s] w fun e w' => e = .returned (.bool true) ∧ Quiet0 w w' := by
  have HT := Lib.hid ht
  have HW := Lib.hid hw
  obtain ⟨at', er⟩ := p
  simp only at hp
  clear ht hw
  have h1 : ¬ (400 : Int) < (s.size : Int) := by omega
  have her : ((er : Int) != 0) = true := by first | (simp; done) | (simp; omega)
  go_enter Tryd.func5, Tryd.ntmps5
  go_wp2_with fail
  refine (words_any s (by omega) _ HT.out).mono ?_; rintro e w1 hp
  obtain ⟨hq1, rfl⟩ := hp.bad HW.out
  have HQ1 := Lib.hid hq1
  clear hp hq1
  go_wp2_with fail
  refine (awake_any _ (HT.out.stay HQ1.out)).mono ?_; rintro e w2 ⟨rfl, hq⟩
  go_wp2_with fail
  go_ret
  exact ⟨rfl, HQ1.out.trans hq⟩

set_option maxRecDepth 100000 in
set_option maxHeartbeats 4000000 in
theorem lexBack_good (s : ByteArray) (hs : s.size ≤ 400) (w : World) (ht : Spaces w) (ts : List Tok) (hw : wordsL s.data.toList = .inl ts) : Calls Tryd.prog 5 #[.string s] w fun e w' => e = .returned (.bool true) ∧ Quiet0 w w' := by
  have HT := Lib.hid ht
  have HW := Lib.hid hw
  obtain ⟨hrow, us, hw2, hmap⟩ := words_back _ _ hw
  have hlen := wordsA_len _ _ _ hw
  rw [bytes_length] at hlen
  have hpl := rowed_len hrow
  rw [bytes_length] at hpl
  have HPL : Hid ((printG (ts.map gtok)).length ≤ 802) := by show _ ≤ _; rw [printG_gtok]; omega
  have HUL : Hid (us.length = ts.length) := by have := congrArg List.length hmap; show _ = _; simpa using this
  have HW2 : Hid (wordsL (toBA (printG (ts.map gtok))).data.toList = .inl us) := by show _ = _; rw [toBA_toList, printG_gtok]; exact hw2
  have HAT := Lib.hid (rowed_at hrow)
  have HLAST := Lib.hid (rowed_last hrow).2
  have hpos := (rowed_last hrow).1
  have HMAP : Hid (∀ (i : Nat) (t : Tok), ts[i]? = some t → ∃ u : Tok, us[i]? = some u ∧ u.kind = t.kind ∧ u.text = t.text) := fun i t h => map_at hmap h
  obtain ⟨n, hn⟩ : ∃ n, n = ts.length := ⟨_, rfl⟩
  rw [← hn] at hlen hpos HLAST HUL
  have HN := Lib.hid hn
  clear ht hw hrow hw2 hmap hpl hn
  have h1 : ¬ (400 : Int) < (s.size : Int) := by omega
  have hn0 : ((n : Int) == 0) = false := by first | (simp; done) | (simp; omega)
  have hnn : ((n : Int) != (n : Int)) = false := by simp
  go_enter Tryd.func5, Tryd.ntmps5
  go_wp2_with fail
  refine (words_any s (by omega) _ HT.out).mono ?_; rintro e w1 hp
  obtain ⟨hq1, g, c, rfl, hr⟩ := hp.ok HW.out
  have HQ1 := Lib.hid hq1
  have HR := Lib.hid hr
  rw [← HN.out] at HR ⊢
  clear hp hq1 hr
  have HG := Lib.hid HR.out.at.gtoks
  go_wp2_with fail
  refine (print_any (some ⟨g, 0, none⟩) n c (ts.map gtok) _ HG.out (by rw [List.length_map, HN.out]) (by omega) (by have := HPL.out; omega)).mono ?_; rintro e w2 ⟨rfl, hq2⟩
  have HQ2 := Lib.hid (HQ1.out.trans hq2)
  have HA2 := Lib.hid (HR.out.at.stay HR.out.lt.2 hq2)
  have hg2 : g < w2.heap.size := Nat.lt_of_lt_of_le HR.out.lt.2 hq2.size
  clear hq2 HG HR
  go_wp2_with fail
  refine (words_any _ (by have := HPL.out; rw [← bytes_length, toBA_toList]; omega) _ (HT.out.stay HQ2.out)).mono ?_; rintro e w3 hp
  obtain ⟨hq3, g3, c3, rfl, hr3⟩ := hp.ok HW2.out
  have HQ3 := Lib.hid (HQ2.out.trans hq3)
  have HA := Lib.hid (HA2.out.stay hg2 hq3)
  have HB := Lib.hid hr3.at
  have hgl : g < w3.heap.size := Nat.lt_of_lt_of_le hg2 hq3.size
  have hg3 : g3 < w3.heap.size := hr3.lt.2
  rw [HUL.out]
  clear hp hq3 hr3 HA2
  go_wp2_with fail
  go_loopw [2, 9] (fun _ t wr => ∃ i : Nat, t = .int .i64 i ∧ i ≤ n ∧ Quiet0 w3 wr) (fun _ t _ => n - (intOf t).toNat)
  case atStart => exact ⟨0, rfl, Nat.zero_le _, Quiet0.refl _⟩
  case round =>
    obtain ⟨i, rfl, hi, hq⟩ := hrel
    have HQ := Lib.hid hq
    clear hq
    by_cases hlt : i < n
    · have hlt' : (i : Int) < n := by omega
      obtain ⟨t, ht⟩ : ∃ t, ts[i]? = some t := ⟨_, List.getElem?_eq_getElem (by have := HN.out; omega)⟩
      obtain ⟨u, hu, hk, htx⟩ := HMAP.out i t ht
      obtain ⟨fact, _⟩ := HAT.out i t ht
      obtain ⟨a0, a1, a2, a3⟩ := (HA.out.stay hgl HQ.out) i t ht
      obtain ⟨b0, b1, _, _⟩ := (HB.out.stay hg3 HQ.out) i u hu
      rw [hk] at b0
      rw [htx] at b1
      have hord := fact.ordered
      have hins := fact.inside
      rw [bytes_length] at hins
      have hf0 : (0 : Int) ≤ (t.fr : Int) := by omega
      have hft : (t.fr : Int) ≤ (t.to : Int) := by omega
      have hts : (t.to : Int) ≤ (s.size : Int) := by omega
      have htext : s.extract t.fr t.to = toBA t.text := by rw [fact.text]; exact extract_text s _ _ hord
      have HTX := Lib.hid htext
      have hkk : ((t.kind : Int) != (t.kind : Int)) = false := by simp
      have htt : ((toBA t.text).toList != (toBA t.text).toList) = false := by simp
      have hte : ((s.extract t.fr t.to).toList == (toBA t.text).toList) = true := by rw [htext]; simp
      have hgwr : g < wr.heap.size := Nat.lt_of_lt_of_le hgl HQ.out.size
      have hg3wr : g3 < wr.heap.size := Nat.lt_of_lt_of_le hg3 HQ.out.size
      have HBEH := Lib.hid fact.behind
      have HAI := Lib.hid (HA.out.stay hgl HQ.out)
      have hfrb : t.fr ≤ 400 := by omega
      have htob : t.to ≤ 400 := by omega
      clear htext fact ht hu hk htx
      obtain ⟨kd, tx, fr, tt⟩ := t
      simp only at a0 a1 a2 a3 b0 b1 hord hins hf0 hft hts HTX hkk htt hte HBEH hfrb htob
      have q1 : decide ((fr : Int) < 0) = false := by first | (simp; done) | (simp; omega)
      have q2 : decide ((tt : Int) < (fr : Int)) = false := by first | (simp; done) | (simp; omega)
      have q3 : decide ((s.size : Int) < (tt : Int)) = false := by first | (simp; done) | (simp; omega)
      have q2' : decide (tt < fr) = false := by simp; omega
      have q3' : decide (s.size < tt) = false := by simp; omega
      by_cases hi0 : 0 < i
      · have hi0' : (0 : Int) < (i : Int) := by omega
        obtain ⟨v, hv⟩ : ∃ v, ts[i - 1]? = some v := ⟨_, List.getElem?_eq_getElem (by have := HN.out; omega)⟩
        have hbeh := HBEH.out (i - 1) v (by omega) hv
        have e3 := (HAI.out (i - 1) v hv).2.2.2
        have hbeh' : (v.to : Int) ≤ (fr : Int) := by omega
        clear hv
        obtain ⟨vk, vx, vf, vt⟩ := v
        simp only at e3 hbeh hbeh'
        have q4 : decide ((0 : Int) < (i : Int)) = true := by first | (simp; done) | (simp; omega)
        have q5 : decide ((fr : Int) < (vt : Int)) = false := by first | (simp; done) | (simp; omega)
        have q4' : decide (0 < i) = true := by simp; omega
        have q5' : decide (fr < vt) = false := by simp; omega
        have q6 : (0 : Int) ≤ (i : Int) - 1 := by omega
        have q7 : (i : Int) - 1 < (n : Int) := by omega
        go_wp2_with fail
        obtain ⟨W, hW⟩ : ∃ W, W = wr.alloc (.cells #[.int .i64 (kd : Nat), .string (toBA tx), .int .i64 (fr : Nat), .int .i64 (tt : Nat)] 34) := ⟨_, rfl⟩
        have HQW : Hid (Quiet0 wr W) := by rw [hW]; exact Quiet0.alloc _ _
        have n0 : W.cell? ⟨wr.heap.size, 0, none⟩ = some (.int .i64 (kd : Nat)) := by rw [hW, cell_of_row _ _ _ _ _ (0, 0) (heap_alloc_new wr _)]; rfl
        have n1 : W.cell? ⟨wr.heap.size, 1, none⟩ = some (.string (toBA tx)) := by rw [hW, cell_of_row _ _ _ _ _ (0, 0) (heap_alloc_new wr _)]; rfl
        have n2 : W.cell? ⟨wr.heap.size, 2, none⟩ = some (.int .i64 (fr : Nat)) := by rw [hW, cell_of_row _ _ _ _ _ (0, 0) (heap_alloc_new wr _)]; rfl
        have n3 : W.cell? ⟨wr.heap.size, 3, none⟩ = some (.int .i64 (tt : Nat)) := by rw [hW, cell_of_row _ _ _ _ _ (0, 0) (heap_alloc_new wr _)]; rfl
        have m0 := (HQW.out.cellb hg3wr (fun h => h)).trans b0
        have m1 := (HQW.out.cellb hg3wr (fun h => h)).trans b1
        have e3' := (HQW.out.cellb hgwr (fun h => h)).trans e3
        clear e3
        change Code.wp _ _ _ _ (wr.alloc (.cells #[.int .i64 (kd : Nat), .string (toBA tx), .int .i64 (fr : Nat), .int .i64 (tt : Nat)] 34))
        rw [← hW]
        clear hW a0 a1 a2 a3 b0 b1
        generalize wr.heap.size = nb at *
        go_quiet (fail)
        go_wp2_with fail
        go_roundw
        case rel => exact ⟨i + 1, by go_num, by omega, (HQ.out.trans HQW.out).trans (Fr.drewN _ _ _)⟩
        case measure => simp [intOf]; omega
      · have hi0' : ¬ (0 : Int) < (i : Int) := by omega
        have q4' : decide (0 < i) = false := by simp; omega
        have q4 : decide ((0 : Int) < (i : Int)) = false := by first | (simp; done) | (simp; omega)
        go_wp2_with fail
        obtain ⟨W, hW⟩ : ∃ W, W = wr.alloc (.cells #[.int .i64 (kd : Nat), .string (toBA tx), .int .i64 (fr : Nat), .int .i64 (tt : Nat)] 34) := ⟨_, rfl⟩
        have HQW : Hid (Quiet0 wr W) := by rw [hW]; exact Quiet0.alloc _ _
        have n0 : W.cell? ⟨wr.heap.size, 0, none⟩ = some (.int .i64 (kd : Nat)) := by rw [hW, cell_of_row _ _ _ _ _ (0, 0) (heap_alloc_new wr _)]; rfl
        have n1 : W.cell? ⟨wr.heap.size, 1, none⟩ = some (.string (toBA tx)) := by rw [hW, cell_of_row _ _ _ _ _ (0, 0) (heap_alloc_new wr _)]; rfl
        have n2 : W.cell? ⟨wr.heap.size, 2, none⟩ = some (.int .i64 (fr : Nat)) := by rw [hW, cell_of_row _ _ _ _ _ (0, 0) (heap_alloc_new wr _)]; rfl
        have n3 : W.cell? ⟨wr.heap.size, 3, none⟩ = some (.int .i64 (tt : Nat)) := by rw [hW, cell_of_row _ _ _ _ _ (0, 0) (heap_alloc_new wr _)]; rfl
        have m0 := (HQW.out.cellb hg3wr (fun h => h)).trans b0
        have m1 := (HQW.out.cellb hg3wr (fun h => h)).trans b1
        change Code.wp _ _ _ _ (wr.alloc (.cells #[.int .i64 (kd : Nat), .string (toBA tx), .int .i64 (fr : Nat), .int .i64 (tt : Nat)] 34))
        rw [← hW]
        clear hW a0 a1 a2 a3 b0 b1
        generalize wr.heap.size = nb at *
        go_quiet (fail)
        go_wp2_with fail
        go_roundw
        case rel => exact ⟨i + 1, by go_num, by omega, (HQ.out.trans HQW.out).trans (Fr.drewN _ _ _)⟩
        case measure => simp [intOf]; omega
    · have hlt' : ¬ (i : Int) < n := by omega
      obtain ⟨z0, z1, z2, z3⟩ := (HA.out.stay hgl HQ.out) (n - 1) _ HLAST.out
      obtain ⟨m, hm⟩ : ∃ m, n = m + 1 := ⟨n - 1, by omega⟩
      subst hm
      have em : (((m + 1 : Nat) : Int) - 1) = (m : Int) := by omega
      simp only [Nat.add_sub_cancel, endTok] at z2
      rw [bytes_length] at z2
      have hss : ((s.size : Int) == (s.size : Int)) = true := by simp
      clear z0 z1 z3
      go_wp2_with fail
      refine (awake_any _ (HT.out.stay (HQ3.out.trans HQ.out))).mono ?_; rintro e w4 ⟨rfl, hq4⟩
      go_wp2_with fail
      go_ret
      exact ⟨rfl, (HQ3.out.trans HQ.out).trans hq4⟩
theorem wordsA_err : ∀ (at' : Nat) (l : List UInt8) (p : Nat × Nat), wordsA at' l = .inr p → p.2 ≠ 0 := by
  suffices h : ∀ (n : Nat) (at' : Nat) (l : List UInt8) (p : Nat × Nat), l.length ≤ n → wordsA at' l = .inr p → p.2 ≠ 0 from fun a l ts hw => h l.length a l ts (Nat.le_refl _) hw
  intro n
  induction n with
  | zero =>
    intro a l p hl hw
    have : l = [] := List.eq_nil_of_length_eq_zero (by omega)
    subst this
    rw [wordsA_end rfl] at hw
    cases hw
  | succ n ih =>
    intro a l p hl hw
    have hle := skipL_le false l
    by_cases hk : skipL false l = l.length
    · rw [wordsA_end hk] at hw; cases hw
    · by_cases he : (nextL (l.drop (skipL false l))).2.2 = 0
      · have hlen := nextL_len he
        rw [wordsA_tok (by omega) he] at hw
        revert hw
        cases hr : wordsA (a + skipL false l + (nextL (l.drop (skipL false l))).2.1) ((l.drop (skipL false l)).drop (nextL (l.drop (skipL false l))).2.1) with
        | inr e =>
          intro hw
          have := ih _ _ e (by simp only [List.length_drop] at *; omega) hr
          cases hw; exact this
        | inl us => intro hw; cases hw
      · rw [wordsA_bad (by omega) he] at hw; cases hw; exact he
theorem lexBack_all (s : ByteArray) (w : World) (ht : Spaces w) : Calls Tryd.prog 5 #[.string s] w fun e w' => e = .returned (.bool true) ∧ Quiet0 w w' := by
  by_cases h : 400 < s.size
  · exact lexBack_big s h w ht
  · cases hw : wordsL s.data.toList with
    | inl ts => exact lexBack_good s (by omega) w ht ts hw
    | inr p => exact lexBack_bad s (by omega) w ht p hw (wordsA_err _ _ _ hw)
end Go.Proofs.YtaojlionebkcoaaDoor
