/-
  span.Cut, the document's Cut and Texts. Conditions: the spans lie in memory as told; there are few; the text is short.
-/
import Derived.Test.YtemoohepiogdgaaSpClip
import Derived.Deep.QuietTactic
namespace Go.Proofs.Ytemoohepiogdgaa
open Go.RowKit Go.Shelf SpanPlain

theorem elemS : Elem Try.prog 37 9 (.string ByteArray.empty) 1 16 :=
  ⟨Try.underlying37, by kernel_rfl, by decide, by decide⟩
/-- a slice's texts -/
def StrAt (w : World) (o : Option Addr) (l : List ByteArray) : Prop := ∀ j s, l[j]? = some s → ∃ b off, o = some ⟨b, off, none⟩ ∧ w.cell? ⟨b, off + j, none⟩ = some (.string s)
theorem StrAt.stay {w w' : World} {o : Option Addr} {l : List ByteArray} (h : StrAt w o l) (hq : Quiet0 w w') : StrAt w' o l := by
  intro j s hs
  obtain ⟨b, off, h0, h1⟩ := h j s hs
  exact ⟨b, off, h0, hq.at h1⟩
def strs (l : List ByteArray) : List Value := l.map .string
/-- a row of texts of the call's own -/
structure StrRow (w : World) (B : Nat) (v : Value) (l : List ByteArray) : Prop where
  own : w.ownsRow 0 9 1 v l.length (strs l)
  low : ∀ k, v.ownBlock = some k → B ≤ k
theorem StrRow.nil (w : World) (B : Nat) : StrRow w B (.slice none 0 0) [] := ⟨World.ownsRow_nil _ _ _ _, fun k hk => (by cases hk)⟩
theorem StrRow.stay {w w' : World} {B : Nat} {v : Value} {l : List ByteArray} (h : StrRow w B v l) (hf : Quiet0 w w') : StrRow w' B v l :=
  ⟨ownsRow_fr h.own hf (fun _ _ h => h), h.low⟩
theorem StrRow.form {w : World} {B : Nat} {v : Value} {l : List ByteArray} (h : StrRow w B v l) : ∃ o c, v = .slice o l.length c ∧ l.length ≤ maxLen ∧ StrAt w o l := by
  rcases h.own.2 with ⟨h1, h2⟩ | ⟨g, cap, cur, rfl, h2, h3, h4, h5, _⟩
  · have e : l = [] := List.eq_nil_of_length_eq_zero h2
    subst e
    exact ⟨none, 0, h1, Nat.zero_le _, fun j s hs => by simp at hs⟩
  · refine ⟨_, cap, rfl, Nat.le_trans h4 h5, fun j s hs => ⟨g, 0, rfl, ?_⟩⟩
    have := h.own.cells (g := g) rfl j (.string s) (by unfold strs; rw [List.getElem?_map, hs]; rfl)
    simpa [Addr.add_lit] using this
theorem StrRow.snoc {W w1 : World} {B : Nat} {v : Value} {l : List ByteArray} {s : ByteArray} {g c : Nat} (hr : StrRow W B v l)
    (ho : w1.ownsRow 0 9 1 (.slice (some ⟨g, 0, none⟩) (l.length + 1) c) (l.length + 1) (strs l ++ #[Value.string s].toList)) (hg : v.ownBlock = some g ∨ W.heap.size ≤ g) (hB : B ≤ W.heap.size) :
    StrRow w1 B (.slice (some ⟨g, 0, none⟩) (l.length + 1) c) (l ++ [s]) := by
  refine ⟨?_, fun k hk => ?_⟩
  · have e : strs (l ++ [s]) = strs l ++ #[Value.string s].toList := by simp [strs]
    rw [e, List.length_append]; exact ho
  · simp [Value.ownBlock] at hk
    subst hk
    rcases hg with h | h
    · exact hr.low g h
    · omega
def StPost (w : World) (l : List ByteArray) (e : Ending) (w' : World) : Prop := ∃ v, e = .returned v ∧ StrRow w' w.heap.size v l ∧ Quiet0 w w'
abbrev part (text : ByteArray) (p : Nat × Nat) : ByteArray := text.extract p.1 p.2
theorem part_step {text : ByteArray} {c : List (Nat × Nat)} {i : Nat} {p : Nat × Nat} (h : c[i]? = some p) : (c.take (i + 1)).map (part text) = (c.take i).map (part text) ++ [text.extract p.1 p.2] := by
  rw [List.take_add_one, h, List.map_append]; rfl
set_option maxHeartbeats 2000000 in
theorem cutS_any (text : ByteArray) (l : List Sp) (o : Option Addr) (cap : Nat) (w : World) (R : Nat → Prop) (hs : SpAt R w o l) (hz : l.length ≤ 100000) (hm : (rmerge l).length ≤ 1000000) (hn : text.size ≤ 1000000) :
    Calls Try.prog 20 #[.string text, .slice o l.length cap] w (StPost w ((clipN text.size (rmerge l)).map (part text))) := by
  have hM := clipS_any text.size l o cap w R hs hz hm
  rw [clipZ_N] at hM
  have HM := Lib.hid hM
  have hcl := clipN_length text.size (rmerge l)
  have hme : ∀ p ∈ clipN text.size (rmerge l), p.1 < p.2 ∧ p.2 ≤ text.size := fun p hp => clipN_mem hp
  obtain ⟨c, hc⟩ : ∃ c, clipN text.size (rmerge l) = c := ⟨_, rfl⟩
  rw [hc] at HM hcl hme
  rw [hc]
  have HME := Lib.hid hme
  have HL : Hid ((c.map toZ).length = c.length) := List.length_map _
  have hcl2 : c.length ≤ 1000000 := by omega
  clear hs hM hc hme hcl
  go_enter Try.func20, Try.ntmps20
  go_wp2_with fail
  refine HM.out.mono ?_; rintro e w1 ⟨v1, rfl, hr1, hq1⟩
  obtain ⟨o1, c1, rfl, hmx1⟩ := hr1.form
  have HR1 := Lib.hid hr1.slc
  have HQ1 := Lib.hid hq1
  rw [HL.out]
  clear hr1 hq1 HM hmx1
  go_wp2_with fail
  go_loopw [5, 13] (fun v t wr => ∃ (i : Nat), t = .int .i64 i ∧ i ≤ c.length ∧ StrRow wr w1.heap.size v ((c.take i).map (part text)) ∧ Quiet0 w1 wr) (fun _ t _ => c.length - (intOf t).toNat)
  case atStart => exact ⟨0, rfl, Nat.zero_le _, StrRow.nil _ _, Quiet0.refl _⟩
  case round =>
    obtain ⟨i, rfl, hi, hrow, hq⟩ := hrel
    have HQ := Lib.hid hq
    by_cases hlt : i < c.length
    · have hlt' : (i : Int) < c.length := by omega
      obtain ⟨p, hp⟩ : ∃ p, c[i]? = some p := ⟨_, List.getElem?_eq_getElem hlt⟩
      obtain ⟨x, y⟩ := p
      obtain ⟨hp1, hp2⟩ := HME.out _ (List.mem_of_getElem? hp)
      have hxy : x < y := hp1
      have hyn : y ≤ text.size := hp2
      have hxy' : (x : Int) ≤ y := by omega
      have hyn' : (y : Int) ≤ text.size := by omega
      obtain ⟨b, off, rfl, _, a0, a1⟩ := HR1.out.stay hq i _ (toZ_get hp)
      have HN := Lib.hid (part_step (text := text) hp)
      have hln : ((c.take i).map (part text)).length = i := by rw [List.length_map, List.length_take]; omega
      generalize hsu : (c.take i).map (part text) = su at *
      have HSU := Lib.hid hsu
      obtain ⟨vo, vc, rfl, hmx, _⟩ := hrow.form
      have HROW := Lib.hid hrow
      have hmx' := hmx
      clear hp hq hp1 hp2 hsu hrow
      subst hln
      go_wp2_with (at_builtin; refine wpList_append_H (wr.alloc (.cells #[.int .i64 x, .int .i64 y] 25)) (wr.heap.size + 1) (by simp) rfl (.tmp 17) (.tmp 24) 37 rfl 9 _ 1 16 elemS (.slice vo su.length vc) su.length (strs su) rfl (HROW.out.stay (Quiet0.alloc _ _)).own #[.string (text.extract x y)] rfl rfl (by simp [Value.oneCell']) (by unfold maxLen; omega) (by omega) ?_; intro g c' w4 ho hf hg)
      have hq2 := Quiet0.alloc wr (.cells #[.int .i64 x, .int .i64 y] 25)
      have HR2 : Hid (StrRow w4 w1.heap.size (.slice (some ⟨g, 0, none⟩) (su.length + 1) c') (su ++ [text.extract x y])) := by
        show StrRow _ _ _ _
        exact StrRow.snoc (HROW.out.stay hq2) ho hg (Nat.le_trans HQ.out.size hq2.size)
      have HQ2 : Hid (Quiet0 w1 w4) := Lib.hid (Fr.trans' (HQ.out.trans hq2) hf (fun kk hkk h => by have := HROW.out.low kk h; omega))
      clear ho hf hg hq2
      go_wp2_with fail
      go_roundw
      case rel => exact ⟨su.length + 1, by go_num, by omega, by rw [HN.out]; exact HR2.out, HQ2.out⟩
      case measure => simp [intOf]; omega
    · have hlt' : ¬ (i : Int) < c.length := by omega
      have hfin : c.take i = c := List.take_of_length_le (by omega)
      rw [hfin] at hrow
      have HROW := Lib.hid hrow
      clear hq hrow
      go_wp2_with fail
      go_ret
      exact ⟨_, rfl, ⟨HROW.out.own, fun k hk => Nat.le_trans HQ1.out.size (HROW.out.low k hk)⟩, HQ1.out.trans HQ.out⟩
theorem run_step {σ : Type} (step : σ → Nat → σ) (a b : Nat) (h : a < b) (st : σ) : run step a b st = run step (a + 1) b (step st a) := by
  rw [run_append step a (a + 1) b (by omega) (by omega), run_one]
set_option maxHeartbeats 2000000 in
theorem refCutS_any (text : ByteArray) (l : List Sp) (o : Option Addr) (cap : Nat) (w : World) (R : Nat → Prop) (hs : SpAt R w o l) (hz : l.length ≤ 100000) (hn : text.size ≤ 1000000) (fin : List ByteArray)
    (hfin : run (cutStep text (fun x => l.any (hasP (x : Int)))) 0 (text.size + 1) (ByteArray.empty, []) = (ByteArray.empty, fin)) :
    Calls Try.prog 21 #[.string text, .slice o l.length cap] w (StPost w fin) := by
  have HS := Lib.hid hs
  have HFIN := Lib.hid hfin
  obtain ⟨st, hst⟩ : ∃ st, st = cutStep text (fun x => l.any (hasP (x : Int))) := ⟨_, rfl⟩
  rw [← hst] at HFIN
  have HST := Lib.hid hst
  clear hs hfin hst
  go_enter Try.func21, Try.ntmps21
  go_wp2_with fail
  go_loopw [5, 6, 7] (fun v u t wr => ∃ (i : Nat) (at' : ByteArray) (out : List ByteArray), t = .int .i64 i ∧ i ≤ text.size + 1 ∧ u = .string at' ∧ StrRow wr w.heap.size v out ∧ run st i (text.size + 1) (at', out) = (ByteArray.empty, fin) ∧ at'.size ≤ i ∧ out.length ≤ i ∧ Quiet0 w wr) (fun _ _ t _ => text.size + 1 - (intOf t).toNat)
  case atStart => exact ⟨0, ByteArray.empty, [], rfl, Nat.zero_le _, rfl, StrRow.nil _ _, HFIN.out, Nat.le_refl _, Nat.le_refl _, Quiet0.refl _⟩
  case round =>
    obtain ⟨i, at', out, rfl, hi, rfl, hrow, hr, has, hol, hq⟩ := hrel
    have HROW := Lib.hid hrow
    have HR := Lib.hid hr
    have HQ := Lib.hid hq
    obtain ⟨vo, vc, rfl, hmx, _⟩ := hrow.form
    by_cases hlt : i ≤ text.size
    · have hlt' : (i : Int) ≤ text.size := by omega
      have HN : Hid (run st (i + 1) (text.size + 1) (st (at', out) i) = (ByteArray.empty, fin)) := by
        have := HR.out; rw [run_step _ _ _ (by omega)] at this; exact this
      clear hr hq hrow
      by_cases hin : i < text.size ∧ l.any (hasP (i : Int)) = true
      · obtain ⟨h1, h2⟩ := hin
        have HC := refHasS_any (i : Int) l o cap wr R (HS.out.stay HQ.out) (by omega)
        rw [h2] at HC
        have HCC := Lib.hid HC
        have HT : Hid (st (at', out) i = (at' ++ text.extract i (i + 1), out)) := by
          show _ = _
          rw [HST.out]; unfold cutStep; simp [h1, h2]
        have h1' : (i : Int) < text.size := by omega
        have hsz : (at' ++ text.extract i (i + 1)).size = at'.size + 1 := by rw [ByteArray.size_append]; simp; omega
        have hsz1 : (text.extract i (i + 1)).size = 1 := by simp; omega
        have HSZ := Lib.hid hsz
        clear HC h2 hsz
        go_wp2_with fail
        refine HCC.out.mono ?_; rintro e w2 ⟨rfl, rfl⟩
        go_wp2_with fail
        go_roundw
        case rel => exact ⟨i + 1, at' ++ text.extract i (i + 1), out, by go_num, by omega, rfl, HROW.out, by rw [← HT.out]; exact HN.out, by rw [HSZ.out]; omega, by omega, HQ.out⟩
        case measure => simp [intOf]; omega
      · have HNI : Hid (¬ (decide (i < text.size) && l.any (hasP (i : Int))) = true) := by show ¬ _; simpa using hin
        by_cases h1 : i < text.size
        · have h2 : l.any (hasP (i : Int)) = false := by
            cases hh : l.any (hasP (i : Int))
            · rfl
            · exact absurd ⟨h1, hh⟩ hin
          have HC := refHasS_any (i : Int) l o cap wr R (HS.out.stay HQ.out) (by omega)
          rw [h2] at HC
          have HCC := Lib.hid HC
          have h1' : (i : Int) < text.size := by omega
          clear HC h2 hin
          by_cases hem : at' = ByteArray.empty
          · have HT : Hid (st (at', out) i = (at', out)) := by
              show _ = _
              rw [HST.out]; unfold cutStep; rw [if_neg HNI.out, if_neg (by simpa using hem)]
            subst hem
            go_wp2_with fail
            refine HCC.out.mono ?_; rintro e w2 ⟨rfl, rfl⟩
            go_wp2_with fail
            go_roundw
            case rel => exact ⟨i + 1, ByteArray.empty, out, by go_num, by omega, rfl, HROW.out, by rw [← HT.out]; exact HN.out, by simp, by omega, HQ.out⟩
            case measure => simp [intOf]; omega
          · have HT : Hid (st (at', out) i = (ByteArray.empty, out ++ [at'])) := by
              show _ = _
              rw [HST.out]; unfold cutStep; rw [if_neg HNI.out, if_pos hem]
            have hl0 : at'.toList.isEmpty = false := by
              cases hh : at'.toList.isEmpty
              · rfl
              · exfalso; apply hem; rw [List.isEmpty_iff] at hh; apply ByteArray.ext; apply Array.ext'; rw [← ByteArray.toList_eq] at *; simpa using hh
            clear hem
            go_wp2_with fail
            refine HCC.out.mono ?_; rintro e w2 ⟨rfl, rfl⟩
            go_wp2_with (at_builtin; refine wpList_append_one wr rfl (.tmp 32) (.tmp 34) 37 rfl 9 _ 1 16 elemS (.slice vo out.length vc) out.length (strs out) rfl HROW.out.own #[.string at'] rfl rfl (by simp [Value.oneCell']) (by unfold maxLen; omega) (by omega) ?_; intro g c' w4 ho hf hg)
            have HR2 : Hid (StrRow w4 w.heap.size (.slice (some ⟨g, 0, none⟩) (out.length + 1) c') (out ++ [at'])) := by
              show StrRow _ _ _ _
              exact StrRow.snoc HROW.out ho hg HQ.out.size
            have HQ2 : Hid (Quiet0 w w4) := Lib.hid (Fr.trans' HQ.out hf (fun kk hkk h => by have := HROW.out.low kk h; omega))
            clear ho hf hg
            go_wp2_with fail
            go_roundw
            case rel => exact ⟨i + 1, ByteArray.empty, out ++ [at'], by go_num, by omega, rfl, HR2.out, by rw [← HT.out]; exact HN.out, by simp, by rw [List.length_append, List.length_singleton]; omega, HQ2.out⟩
            case measure => simp [intOf]; omega
        · have h1' : ¬ (i : Int) < text.size := by omega
          clear hin
          by_cases hem : at' = ByteArray.empty
          · have HT : Hid (st (at', out) i = (at', out)) := by
              show _ = _
              rw [HST.out]; unfold cutStep; rw [if_neg HNI.out, if_neg (by simpa using hem)]
            subst hem
            skip
            go_wp2_with fail
            go_roundw
            case rel => exact ⟨i + 1, ByteArray.empty, out, by go_num, by omega, rfl, HROW.out, by rw [← HT.out]; exact HN.out, by simp, by omega, HQ.out⟩
            case measure => simp [intOf]; omega
          · have HT : Hid (st (at', out) i = (ByteArray.empty, out ++ [at'])) := by
              show _ = _
              rw [HST.out]; unfold cutStep; rw [if_neg HNI.out, if_pos hem]
            have hl0 : at'.toList.isEmpty = false := by
              cases hh : at'.toList.isEmpty
              · rfl
              · exfalso; apply hem; rw [List.isEmpty_iff] at hh; apply ByteArray.ext; apply Array.ext'; rw [← ByteArray.toList_eq] at *; simpa using hh
            clear hem
            skip
            go_wp2_with (at_builtin; refine wpList_append_one wr rfl (.tmp 32) (.tmp 34) 37 rfl 9 _ 1 16 elemS (.slice vo out.length vc) out.length (strs out) rfl HROW.out.own #[.string at'] rfl rfl (by simp [Value.oneCell']) (by unfold maxLen; omega) (by omega) ?_; intro g c' w4 ho hf hg)
            have HR2 : Hid (StrRow w4 w.heap.size (.slice (some ⟨g, 0, none⟩) (out.length + 1) c') (out ++ [at'])) := by
              show StrRow _ _ _ _
              exact StrRow.snoc HROW.out ho hg HQ.out.size
            have HQ2 : Hid (Quiet0 w w4) := Lib.hid (Fr.trans' HQ.out hf (fun kk hkk h => by have := HROW.out.low kk h; omega))
            clear ho hf hg
            go_wp2_with fail
            go_roundw
            case rel => exact ⟨i + 1, ByteArray.empty, out ++ [at'], by go_num, by omega, rfl, HR2.out, by rw [← HT.out]; exact HN.out, by simp, by rw [List.length_append, List.length_singleton]; omega, HQ2.out⟩
            case measure => simp [intOf]; omega
    · have hlt' : ¬ (i : Int) ≤ text.size := by omega
      have hie : i = text.size + 1 := by omega
      have hfin : out = fin := by
        have := hr
        rw [hie, run_same] at this
        exact (Prod.mk.inj this).2
      have HF := Lib.hid hfin
      clear hr hq hrow hfin hie
      go_wp2_with fail
      go_ret
      refine ⟨_, rfl, ?_, HQ.out⟩
      rw [← HF.out]
      exact HROW.out
set_option maxHeartbeats 1000000 in
theorem refTexts_any (a b : List ByteArray) (o : Option Addr) (cap : Nat) (p : Option Addr) (pc : Nat) (w : World) (hs : StrAt w o a) (ht : StrAt w p b) (hz : a.length ≤ 1000000) (hz' : b.length ≤ 1000000) :
    Calls Try.prog 19 #[.slice o a.length cap, .slice p b.length pc] w fun e w' => e = .returned (.bool (decide (a = b))) ∧ Quiet0 w w' := by
  have HS := Lib.hid hs
  have HT := Lib.hid ht
  clear hs ht
  by_cases hl : a.length = b.length
  · obtain ⟨res, hres⟩ : ∃ res, res = decide (a = b) := ⟨_, rfl⟩
    have HR0 := Lib.hid hres
    rw [← hres]
    clear hres
    generalize hn : b.length = n at *
    have HN := Lib.hid hn
    rw [hl]
    have HL := Lib.hid hl
    clear hn hl
    go_enter Try.func19, Try.ntmps19
    go_wp2_with fail
    go_loopw [5] (fun t wr => ∃ i : Nat, t = .int .i64 i ∧ i ≤ n ∧ a.take i = b.take i ∧ Quiet0 w wr) (fun t _ => n - (intOf t).toNat)
    case atStart => exact ⟨0, rfl, Nat.zero_le _, rfl, Quiet0.refl _⟩
    case round =>
      obtain ⟨i, rfl, hi, htk, hq⟩ := hrel
      have HTK := Lib.hid htk
      have HQ := Lib.hid hq
      clear htk hq
      by_cases hlt : i < n
      · have hlt' : (i : Int) < n := by omega
        obtain ⟨s, hs⟩ : ∃ s, a[i]? = some s := ⟨_, List.getElem?_eq_getElem (by have := HL.out; omega)⟩
        obtain ⟨t, ht⟩ : ∃ t, b[i]? = some t := ⟨_, List.getElem?_eq_getElem (by have := HN.out; omega)⟩
        obtain ⟨g1, off1, rfl, a0⟩ := HS.out.stay HQ.out i s hs
        obtain ⟨g2, off2, rfl, b0⟩ := HT.out.stay HQ.out i t ht
        have HSI := Lib.hid hs
        have HTI := Lib.hid ht
        clear hs ht
        by_cases hx : s = t
        · subst hx
          go_wp2_with fail
          go_quiet (fail)
          go_wp2_with fail
          go_roundw
          case rel => exact ⟨i + 1, by go_num, by omega, by rw [List.take_add_one, List.take_add_one, HTK.out, HSI.out, HTI.out], HQ.out.trans (Quiet0.drewN _ _)⟩
          case measure => simp [intOf]; omega
        · have HY : Hid (res = false) := by
            show _ = _
            rw [HR0.out]; simp only [decide_eq_false_iff_not]; intro e; have h1 := HSI.out; rw [e, HTI.out] at h1; simp at h1; exact hx h1.symm
          have e1 : (s.toList == t.toList) = false := by
            cases hh : (s.toList == t.toList)
            · rfl
            · exfalso; apply hx
              rw [beq_iff_eq] at hh
              apply ByteArray.ext; apply Array.ext'; rw [← ByteArray.toList_eq, ← ByteArray.toList_eq]; exact hh
          go_wp2_with fail
          go_quiet (fail)
          go_wp2_with fail
          go_ret
          exact ⟨by rw [HY.out]; rfl, HQ.out.trans (Quiet0.drewN _ _)⟩
      · have hlt' : ¬ (i : Int) < n := by omega
        have HY : Hid (res = true) := by
          show _ = _
          have := HTK.out
          rw [List.take_of_length_le (by have := HL.out; omega), List.take_of_length_le (by have := HN.out; omega)] at this
          rw [HR0.out]; simpa using this
        go_wp2_with fail
        go_ret
        exact ⟨by rw [HY.out]; rfl, HQ.out⟩
  · have hd : decide (a = b) = false := by simp; intro h; exact hl (by rw [h])
    rw [hd]
    clear hd
    generalize a.length = m at *
    generalize b.length = n at *
    have hne : ((m : Int) == n) = false := by simp; omega
    have hne' : (m == n) = false := by simp; omega
    go_enter Try.func19, Try.ntmps19
    go_wp2_with fail
    go_ret
    exact ⟨rfl, Quiet0.refl _⟩
end Go.Proofs.Ytemoohepiogdgaa
