/-
  Words: a text's tokens, in a row of the call's own, or what is wrong and where. Conditions: the text is of a bounded length; strings.asciiSpace holds what its initialiser lays.
-/
import Derived.Test.YtaojlionebkcoaaDoorLexTok
import Derived.Test.YtaojlionebkcoaaDoorMem2
namespace Go.Proofs.YtaojlionebkcoaaDoor
open Go.RowKit

def tokCells (t : Tok) : List Value := [.int .i64 (t.kind : Nat), .string (toBA t.text), .int .i64 (t.fr : Nat), .int .i64 (t.to : Nat)]
def rowCells (ts : List Tok) : List Value := ts.flatMap tokCells
theorem rowCells_snoc (ts : List Tok) (t : Tok) : rowCells (ts ++ [t]) = rowCells ts ++ tokCells t := by simp [rowCells]
/-- tokens in a row of the call's own, from block B on -/
def TokRow (w : World) (B : Nat) (v : Value) (ts : List Tok) : Prop := w.ownsRow 0 34 4 v ts.length (rowCells ts) ∧ ∀ k, v.ownBlock = some k → B ≤ k
def WordsPost (l : List UInt8) (w : World) (e : Ending) (w' : World) : Prop :=
  Quiet0 w w' ∧ match wordsL l with
    | .inl ts => ∃ g c, e = .returned (.tuple #[.slice (some ⟨g, 0, none⟩) ts.length c, .int .i64 0, .int .i64 0]) ∧ TokRow w' w.heap.size (.slice (some ⟨g, 0, none⟩) ts.length c) ts
    | .inr p => e = .returned (.tuple #[.slice none 0 0, .int .i64 (p.1 : Nat), .int .i64 (p.2 : Nat)])
theorem skipL_drop : ∀ (b : Bool) (l : List UInt8), skipL false (l.drop (skipL b l)) = 0
  | b, [] => by cases b <;> rfl
  | false, c :: r => by
    have i1 := skipL_drop false r
    have i2 := skipL_drop true r
    by_cases h : blankB c = true
    · have e : skipL false (c :: r) = skipL false r + 1 := by simp [skipL, h]
      rw [e, List.drop_succ_cons]; exact i1
    · by_cases h2 : (c == 35) = true
      · have e : skipL false (c :: r) = skipL true r + 1 := by simp [skipL, h, h2]
        rw [e, List.drop_succ_cons]; exact i2
      · have e : skipL false (c :: r) = 0 := by simp [skipL, h, h2]
        rw [e, List.drop_zero, e]
  | true, c :: r => by
    have i1 := skipL_drop false r
    have i2 := skipL_drop true r
    by_cases h : (c == 10) = true
    · have e : skipL true (c :: r) = skipL false r + 1 := by simp [skipL, h]
      rw [e, List.drop_succ_cons]; exact i1
    · have e : skipL true (c :: r) = skipL true r + 1 := by simp [skipL, h]
      rw [e, List.drop_succ_cons]; exact i2
theorem elemTok : Elem Tryd.prog 23 34 (.agg #[.int .i64 0, .string ⟨#[]⟩, .int .i64 0, .int .i64 0]) 4 40 :=
  ⟨Tryd.underlying23, by kernel_rfl, by decide, by decide⟩
theorem token_text (s : ByteArray) (n m : Nat) : s.extract n (n + m) = toBA ((s.data.toList.drop n).take m) := by
  apply ba_ext
  rw [Lib.extract_data, toBA_toList]; congr 1; omega

theorem append_tok {w W w1 : World} {B : Nat} {v : Value} {acc : List Tok} {t : Tok} {g c : Nat} (hq : Quiet0 w W) (hB : B = w.heap.size) (hr : TokRow W B v acc)
    (ho : w1.ownsRow 0 34 4 (.slice (some ⟨g, 0, none⟩) (acc.length + 1) c) (acc.length + 1) (rowCells acc ++ tokCells t)) (hf : Fr (fun k => v.ownBlock = some k) W w1) (hg : v.ownBlock = some g ∨ W.heap.size ≤ g) :
    TokRow w1 B (.slice (some ⟨g, 0, none⟩) (acc ++ [t]).length c) (acc ++ [t]) ∧ Quiet0 w w1 := by
  subst hB
  refine ⟨⟨by rw [rowCells_snoc]; simpa using ho, ?_⟩, ?_⟩
  · intro k hk
    simp [Value.ownBlock] at hk
    subst hk
    rcases hg with h | h
    · exact hr.2 g h
    · exact Nat.le_trans hq.size h
  · exact Fr.trans' hq hf (fun i hi h => absurd (hr.2 i h) (by omega))

set_option maxHeartbeats 2000000 in
theorem words_any (s : ByteArray) (hs : s.size ≤ 100000) (w : World) (ht : Spaces w) :
    Calls Tryd.prog 8 #[.string s] w fun e w' => WordsPost s.data.toList w e w' := by
  have HT := Lib.hid ht
  have HS : Hid (s.size ≤ maxLen) := by show _ ≤ _; unfold maxLen; omega
  clear ht
  go_enter Tryd.func8, Tryd.ntmps8
  go_wp2_with fail
  refine (skip_any s 0 _ rfl (Nat.zero_le _) HS.out _).mono ?_; rintro e w' ⟨rfl, rfl⟩
  go_wp2_with fail
  obtain ⟨B, hB⟩ : ∃ B, B = w.heap.size := ⟨_, rfl⟩
  have HBB := Lib.hid hB
  clear hB
  go_loopw [5, 6] (fun v t wr => ∃ (acc : List Tok) (n : Nat) (o : Option Addr) (c : Nat), v = .slice o acc.length c ∧ t = .int .i64 n ∧ n ≤ s.size ∧ wordsL s.data.toList = appW acc (wordsA n (s.data.toList.drop n)) ∧ skipL false (s.data.toList.drop n) = 0 ∧ TokRow wr B (.slice o acc.length c) acc ∧ acc.length ≤ n ∧ Quiet0 w wr) (fun _ t _ => s.size - (intOf t).toNat)
  case atStart =>
    have hle := skipL_le false s.data.toList
    have h0 := skipL_drop false s.data.toList
    rw [bytes_length] at hle
    refine ⟨[], skipL false s.data.toList, none, 0, rfl, by simp, hle, ?_, h0, ⟨World.ownsRow_nil _ _ _ _, by intro k hk; cases hk⟩, Nat.zero_le _, Quiet0.refl _⟩
    rw [appW_nil]
    have := wordsA_skip (at' := 0) (l := s.data.toList) (k := skipL false s.data.toList) (Nat.le_refl _) (by rw [h0]; omega)
    rw [Nat.zero_add] at this
    exact this
  case round =>
    obtain ⟨acc, n, o, c, rfl, rfl, hn, hW, h0, hrow, hacc, hq⟩ := hrel
    have HW := Lib.hid hW
    have H0 := Lib.hid h0
    have HR := Lib.hid hrow
    have HQ := Lib.hid hq
    clear hW h0 hrow hq
    by_cases hlt : n < s.size
    · have hlt' : (n : Int) < s.size := by omega
      have HT2 := Lib.hid (HT.out.stay HQ.out)
      have hne : skipL false (s.data.toList.drop n) < (s.data.toList.drop n).length := by rw [H0.out, List.length_drop, bytes_length]; omega
      have HNX := Lib.hid (next_any s n _ rfl hlt HS.out wr HT2.out)
      have HLEN := Lib.hid (nextL_len (l := s.data.toList.drop n))
      have HTOK := Lib.hid (wordsA_tok (at' := n) hne)
      have HBAD := Lib.hid (wordsA_bad (at' := n) hne)
      rw [H0.out] at HTOK HBAD
      simp only [List.drop_zero, Nat.add_zero] at HTOK HBAD
      rw [List.length_drop, bytes_length] at HLEN
      clear hne
      obtain ⟨kd, ln, er, hnx⟩ : ∃ a b c, nextL (s.data.toList.drop n) = (a, b, c) := ⟨_, _, _, rfl⟩
      rw [hnx] at HNX HLEN HTOK HBAD
      have HNX2 := Lib.hid hnx
      clear hnx
      by_cases her : er = 0
      · subst her
        have hl := HLEN.out rfl
        have htok := HTOK.out rfl
        have HTOK2 := Lib.hid htok
        clear HTOK HBAD htok HLEN
        have HTXT := Lib.hid (token_text s n ln)
        go_wp2_with fail
        refine HNX.out.mono ?_; rintro e w1 ⟨rfl, hq1⟩
        have HQ1 := Lib.hid (HQ.out.trans hq1)
        have HR1 : Hid (TokRow w1 B (.slice o acc.length c) acc) := ⟨ownsRow_fr HR.out.1 hq1 (fun _ _ h => h), HR.out.2⟩
        clear hq1
        have hsz1 : acc.length ≤ 100000 := by omega
        unfold trip
        go_wp2_with (at_builtin; go_must (refine wpList_append_one w1 rfl (.tmp 27) (.tmp 41) 23 rfl 34 _ 4 40 elemTok (.slice o acc.length c) acc.length (rowCells acc) rfl HR1.out.1 #[.int .i64 (kd : Nat), .string (s.extract n (n + ln)), .int .i64 (n : Nat), .int .i64 ((n : Nat) + (ln : Nat))] rfl rfl ?c1 ?c2 ?c3 ?_))
        case c1 => simp [Value.oneCell']
        case c2 => unfold maxLen; omega
        case c3 => omega
        intro g c' w2 ho hf hg
        have hap : TokRow w2 B (.slice (some ⟨g, 0, none⟩) (acc ++ [(⟨kd, (s.data.toList.drop n).take ln, n, n + ln⟩ : Tok)]).length c') (acc ++ [(⟨kd, (s.data.toList.drop n).take ln, n, n + ln⟩ : Tok)]) ∧ Quiet0 w w2 := by
          refine append_tok HQ1.out HBB.out HR1.out ?_ hf hg
          rw [HTXT.out] at ho
          exact ho
        have HAP := Lib.hid hap
        clear hap ho hf hg HR1
        have hk2 : n + ln ≤ s.size := by omega
        go_wp2_with fail
        refine (skip_any s (n + ln) _ (by push_cast; rfl) hk2 HS.out _).mono ?_; rintro e w' ⟨rfl, rfl⟩
        have hle2 := skipL_le false (s.data.toList.drop (n + ln))
        rw [List.length_drop, bytes_length] at hle2
        have HD2 := Lib.hid (skipL_drop false (s.data.toList.drop (n + ln)))
        have HSK := Lib.hid (fun h1 h2 => wordsA_skip (at' := n + ln) (l := s.data.toList.drop (n + ln)) (k := skipL false (s.data.toList.drop (n + ln))) h1 h2)
        generalize hsk : skipL false (s.data.toList.drop (n + ln)) = sk at *
        have HSKE := Lib.hid hsk
        clear hsk
        go_wp2_with fail
        go_roundw
        case rel =>
          refine ⟨acc ++ [(⟨kd, (s.data.toList.drop n).take ln, n, n + ln⟩ : Tok)], n + ln + sk, some ⟨g, 0, none⟩, c', by simp, by go_num, by omega, ?_, ?_, HAP.out.1, by simp; omega, HAP.out.2⟩
          · rw [HW.out, HTOK2.out, appW_cons, List.drop_drop, HSK.out (Nat.le_refl _) (by rw [HD2.out]; omega), List.drop_drop]
          · have := HD2.out; rw [List.drop_drop] at this; exact this
        case measure => simp [intOf]; omega
      · have hbad := HBAD.out her
        have HBAD2 := Lib.hid hbad
        clear HTOK HBAD hbad HLEN
        have her' : ((er : Nat) : Int) ≠ 0 := by omega
        have her2 : (((er : Nat) : Int) != 0) = true := by simp; omega
        go_wp2_with fail
        refine HNX.out.mono ?_; rintro e w1 ⟨rfl, hq1⟩
        have HQ1 := Lib.hid (HQ.out.trans hq1)
        clear hq1
        unfold trip
        go_wp2_with fail
        go_ret3
        refine ⟨HQ1.out, ?_⟩
        rw [HW.out, HBAD2.out]
        rfl
    · have hnn : n = s.size := by omega
      have HNN := Lib.hid hnn
      have HEND := Lib.hid (wordsA_end (at' := n) (l := s.data.toList.drop n) (by rw [H0.out, List.length_drop, bytes_length]; omega))
      clear hnn
      have hlt' : ¬ (n : Int) < s.size := by omega
      have hsz1 : acc.length ≤ 100000 := by omega
      go_wp2_with (at_builtin; go_must (refine wpList_append_one wr rfl (.tmp 48) (.tmp 55) 23 rfl 34 _ 4 40 elemTok (.slice o acc.length c) acc.length (rowCells acc) rfl HR.out.1 #[.int .i64 0, .string ⟨#[]⟩, .int .i64 (s.size : Nat), .int .i64 (s.size : Nat)] rfl rfl ?d1 ?d2 ?d3 ?_))
      case d1 => simp [Value.oneCell']
      case d2 => unfold maxLen; omega
      case d3 => omega
      intro g c' w2 ho hf hg
      have hap : TokRow w2 B (.slice (some ⟨g, 0, none⟩) (acc ++ [endTok s.size]).length c') (acc ++ [endTok s.size]) ∧ Quiet0 w w2 := by
        refine append_tok HQ.out HBB.out HR.out ?_ hf hg
        exact ho
      have HAP := Lib.hid hap
      clear hap ho hf hg HR
      go_wp2_with fail
      go_ret3
      refine ⟨HAP.out.2, ?_⟩
      have hw : wordsL s.data.toList = .inl (acc ++ [endTok s.size]) := by
        rw [HW.out, HEND.out, List.length_drop, bytes_length, HNN.out]
        simp [appW]
      rw [hw]
      refine ⟨g, c', by simp, ?_⟩
      rw [← HBB.out]; exact HAP.out.1
end Go.Proofs.YtaojlionebkcoaaDoor
