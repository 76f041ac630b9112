/-
  span.Cut, the document's Cut and Texts. Conditions: the spans lie in memory as told; there are few; the text is short.
-/
import Derived.Test.YtdlcakmjihfgfaaDoorSpClip
import Derived.Test.YtdlcakmjihfgfaaDoorSpHas
import Derived.Deep.QuietTactic
namespace Go.Proofs.YtdlcakmjihfgfaaDoor
open Go.RowKit Go.Shelf SpanPlain

theorem elemS : Elem Tryd.prog 31 9 (.string ByteArray.empty) 1 16 :=
  ⟨Tryd.underlying31, by kernel_rfl, by decide, by decide⟩
/-- a slice's texts -/
def StrAt (w : World) (o : Option Addr) (l : List ByteArray) : Prop := ∀ j s, l[j]? = some s → ∃ b off, o = some ⟨b, off, none⟩ ∧ w.cell? ⟨b, off + j, none⟩ = some (.string s)
theorem StrAt.stay {w w' : World} {o : Option Addr} {l : List ByteArray} (h : StrAt w o l) (hq : Quiet0 w w') : StrAt w' o l := by
  intro j s hs
  obtain ⟨b, off, h0, h1⟩ := h j s hs
  exact ⟨b, off, h0, hq.at h1⟩
def strs (l : List ByteArray) : List Value := l.map .string
/-- a row of texts of the call's own -/
structure StrRow (w : World) (B : Nat) (v : Value) (l : List ByteArray) : Prop where
  own : w.ownsRow 0 9 1 v l.length (strs l)
  low : ∀ k, v.ownBlock = some k → B ≤ k
theorem StrRow.nil (w : World) (B : Nat) : StrRow w B (.slice none 0 0) [] := ⟨World.ownsRow_nil _ _ _ _, fun k hk => (by cases hk)⟩
theorem StrRow.stay {w w' : World} {B : Nat} {v : Value} {l : List ByteArray} (h : StrRow w B v l) (hf : Quiet0 w w') : StrRow w' B v l :=
  ⟨ownsRow_fr h.own hf (fun _ _ h => h), h.low⟩
theorem StrRow.form {w : World} {B : Nat} {v : Value} {l : List ByteArray} (h : StrRow w B v l) : ∃ o c, v = .slice o l.length c ∧ l.length ≤ maxLen ∧ StrAt w o l := by
  rcases h.own.2 with ⟨h1, h2⟩ | ⟨g, cap, cur, rfl, h2, h3, h4, h5, _⟩
  · have e : l = [] := List.eq_nil_of_length_eq_zero h2
    subst e
    exact ⟨none, 0, h1, Nat.zero_le _, fun j s hs => by simp at hs⟩
  · refine ⟨_, cap, rfl, Nat.le_trans h4 h5, fun j s hs => ⟨g, 0, rfl, ?_⟩⟩
    have := h.own.cells (g := g) rfl j (.string s) (by unfold strs; rw [List.getElem?_map, hs]; rfl)
    simpa [Addr.add_lit] using this
theorem StrRow.snoc {W w1 : World} {B : Nat} {v : Value} {l : List ByteArray} {s : ByteArray} {g c : Nat} (hr : StrRow W B v l)
    (ho : w1.ownsRow 0 9 1 (.slice (some ⟨g, 0, none⟩) (l.length + 1) c) (l.length + 1) (strs l ++ #[Value.string s].toList)) (hg : v.ownBlock = some g ∨ W.heap.size ≤ g) (hB : B ≤ W.heap.size) :
    StrRow w1 B (.slice (some ⟨g, 0, none⟩) (l.length + 1) c) (l ++ [s]) := by
  refine ⟨?_, fun k hk => ?_⟩
  · have e : strs (l ++ [s]) = strs l ++ #[Value.string s].toList := by simp [strs]
    rw [e, List.length_append]; exact ho
  · simp [Value.ownBlock] at hk
    subst hk
    rcases hg with h | h
    · exact hr.low g h
    · omega
def StPost (w : World) (l : List ByteArray) (e : Ending) (w' : World) : Prop := ∃ v, e = .returned v ∧ StrRow w' w.heap.size v l ∧ Quiet0 w w'
abbrev part (text : ByteArray) (p : Nat × Nat) : ByteArray := text.extract p.1 p.2
theorem part_step {text : ByteArray} {c : List (Nat × Nat)} {i : Nat} {p : Nat × Nat} (h : c[i]? = some p) : (c.take (i + 1)).map (part text) = (c.take i).map (part text) ++ [text.extract p.1 p.2] := by
  rw [List.take_add_one, h, List.map_append]; rfl
set_option maxHeartbeats 2000000 in
theorem cutS_any (text : ByteArray) (l : List Sp) (o : Option Addr) (cap : Nat) (w : World) (R : Nat → Prop) (hs : SpAt R w o l) (hz : l.length ≤ 100000) (hm : (rmerge l).length ≤ 1000000) (_ : text.size ≤ 1000000) :
    Calls Tryd.prog 14 #[.string text, .slice o l.length cap] w (StPost w ((clipN text.size (rmerge l)).map (part text))) := by
  have hM := clipS_any text.size l o cap w R hs hz hm
  rw [clipZ_N] at hM
  have HM := Lib.hid hM
  have hcl := clipN_length text.size (rmerge l)
  have hme : ∀ p ∈ clipN text.size (rmerge l), p.1 < p.2 ∧ p.2 ≤ text.size := fun p hp => clipN_mem hp
  obtain ⟨c, hc⟩ : ∃ c, clipN text.size (rmerge l) = c := ⟨_, rfl⟩
  rw [hc] at HM hcl hme
  rw [hc]
  have HME := Lib.hid hme
  have HL : Hid ((c.map toZ).length = c.length) := List.length_map _
  have hcl2 : c.length ≤ 1000000 := by omega
  clear hs hM hc hme hcl
  go_enter Tryd.func14, Tryd.ntmps14
  go_wp2_with fail
  refine HM.out.mono ?_; rintro e w1 ⟨v1, rfl, hr1, hq1⟩
  obtain ⟨o1, c1, rfl, hmx1⟩ := hr1.form
  have HR1 := Lib.hid hr1.slc
  have HQ1 := Lib.hid hq1
  rw [HL.out]
  clear hr1 hq1 HM hmx1
  go_wp2_with fail
  go_loopw [5, 13] (fun v t wr => ∃ (i : Nat), t = .int .i64 i ∧ i ≤ c.length ∧ StrRow wr w1.heap.size v ((c.take i).map (part text)) ∧ Quiet0 w1 wr) (fun _ t _ => c.length - (intOf t).toNat)
  case atStart => exact ⟨0, rfl, Nat.zero_le _, StrRow.nil _ _, Quiet0.refl _⟩
  case round =>
    obtain ⟨i, rfl, hi, hrow, hq⟩ := hrel
    have HQ := Lib.hid hq
    by_cases hlt : i < c.length
    · have hlt' : (i : Int) < c.length := by omega
      obtain ⟨p, hp⟩ : ∃ p, c[i]? = some p := ⟨_, List.getElem?_eq_getElem hlt⟩
      obtain ⟨x, y⟩ := p
      obtain ⟨hp1, hp2⟩ := HME.out _ (List.mem_of_getElem? hp)
      have hxy : x < y := hp1
      have hyn : y ≤ text.size := hp2
      have hxy' : (x : Int) ≤ y := by omega
      have hyn' : (y : Int) ≤ text.size := by omega
      obtain ⟨b, off, rfl, _, a0, a1⟩ := HR1.out.stay hq i _ (toZ_get hp)
      have HN := Lib.hid (part_step (text := text) hp)
      have hln : ((c.take i).map (part text)).length = i := by rw [List.length_map, List.length_take]; omega
      generalize hsu : (c.take i).map (part text) = su at *
      have HSU := Lib.hid hsu
      obtain ⟨vo, vc, rfl, hmx, _⟩ := hrow.form
      have HROW := Lib.hid hrow
      have hmx' := hmx
      clear hp hq hp1 hp2 hsu hrow
      subst hln
      go_wp2_with (at_builtin; refine wpList_append_H (wr.alloc (.cells #[.int .i64 x, .int .i64 y] 41)) (wr.heap.size + 1) (by simp) rfl (.tmp 17) (.tmp 24) 31 rfl 9 _ 1 16 elemS (.slice vo su.length vc) su.length (strs su) rfl (HROW.out.stay (Quiet0.alloc _ _)).own #[.string (text.extract x y)] rfl rfl (by simp [Value.oneCell']) (by unfold maxLen; omega) (by omega) ?_; intro g c' w4 ho hf hg)
      have hq2 := Quiet0.alloc wr (.cells #[.int .i64 x, .int .i64 y] 41)
      have HR2 : Hid (StrRow w4 w1.heap.size (.slice (some ⟨g, 0, none⟩) (su.length + 1) c') (su ++ [text.extract x y])) := by
        show StrRow _ _ _ _
        exact StrRow.snoc (HROW.out.stay hq2) ho hg (Nat.le_trans HQ.out.size hq2.size)
      have HQ2 : Hid (Quiet0 w1 w4) := Lib.hid (Fr.trans' (HQ.out.trans hq2) hf (fun kk hkk h => by have := HROW.out.low kk h; omega))
      clear ho hf hg hq2
      go_wp2_with fail
      go_roundw
      case rel => exact ⟨su.length + 1, by go_num, by omega, by rw [HN.out]; exact HR2.out, HQ2.out⟩
      case measure => simp [intOf]; omega
    · have hlt' : ¬ (i : Int) < c.length := by omega
      have hfin : c.take i = c := List.take_of_length_le (by omega)
      rw [hfin] at hrow
      have HROW := Lib.hid hrow
      clear hq hrow
      go_wp2_with fail
      go_ret
      exact ⟨_, rfl, ⟨HROW.out.own, fun k hk => Nat.le_trans HQ1.out.size (HROW.out.low k hk)⟩, HQ1.out.trans HQ.out⟩
end Go.Proofs.YtdlcakmjihfgfaaDoor
