/-
  Rows of numbers in memory, the call's own; the documents' Ints (are two rows the same?). Conditions: the rows lie in memory as told; they are short.
-/
import Derived.Test.YtdlcakmjihfgfaaDoorQuiet
import Derived.Test.YtdlcakmjihfgfaaDoorBlk
import Derived.Test.YtdlcakmjihfgfaaDoorProg
import Derived.StillTailTactics
import Derived.BigQuiet
import Derived.Deep.QuietTactic
import Derived.IntWalk
namespace Go.Proofs.YtdlcakmjihfgfaaDoor.Li
open Go.RowKit

theorem elemInt : Elem Tryd.prog 27 3 (.int .i64 0) 1 8 :=
  ⟨Tryd.underlying27, by kernel_rfl, by decide, by decide⟩
def ints (l : List Int) : List Value := l.map (Value.int .i64)
theorem ints_app (a b : List Int) : ints (a ++ b) = ints a ++ ints b := by simp [ints]
def IntsAt (w : World) (o : Option Addr) (l : List Int) : Prop := ∀ i x, l[i]? = some x → ∃ b off, o = some ⟨b, off, none⟩ ∧ w.cell? ⟨b, off + i, none⟩ = some (.int .i64 x)
theorem IntsAt.stay {w w' : World} {o : Option Addr} {l : List Int} (h : IntsAt w o l) (hq : Quiet0 w w') : IntsAt w' o l := by
  intro i x hi
  obtain ⟨b, off, ho, hc⟩ := h i x hi
  exact ⟨b, off, ho, hq.at hc⟩
theorem drop_some {α : Type} {l : List α} {k : Nat} {t : α} (h : l[k]? = some t) : l.drop k = t :: l.drop (k + 1) := by
  obtain ⟨hl, rfl⟩ := List.getElem?_eq_some_iff.1 h
  exact List.drop_eq_getElem_cons hl
/-- a row of the call's own -/
structure IntRow (w : World) (B : Nat) (v : Value) (l : List Int) : Prop where
  own : w.ownsRow 0 3 1 v l.length (ints l)
  low : ∀ k, v.ownBlock = some k → B ≤ k
theorem IntRow.nil (w : World) (B : Nat) : IntRow w B (.slice none 0 0) [] := ⟨World.ownsRow_nil _ _ _ _, fun k hk => (by cases hk)⟩
theorem IntRow.stay {w w' : World} {B : Nat} {v : Value} {l : List Int} (h : IntRow w B v l) (hf : Quiet0 w w') : IntRow w' B v l :=
  ⟨ownsRow_fr h.own hf (fun _ _ h => h), h.low⟩
theorem IntRow.fr {S : Nat → Prop} {w w' : World} {B : Nat} {v : Value} {l : List Int} (h : IntRow w B v l) (hf : Fr S w w') (hS : ∀ k, v.ownBlock = some k → ¬ S k) : IntRow w' B v l :=
  ⟨ownsRow_fr h.own hf hS, h.low⟩
theorem IntRow.form {w : World} {B : Nat} {v : Value} {l : List Int} (h : IntRow w B v l) : ∃ o c, v = .slice o l.length c ∧ l.length ≤ maxLen ∧ l.length ≤ c ∧ IntsAt w o l ∧ (0 < l.length → ∃ g, o = some ⟨g, 0, none⟩ ∧ B ≤ g ∧ ∃ cur, w.heap[g]? = some (.cells cur 3 (0, 0))) := by
  rcases h.own.2 with ⟨h1, h2⟩ | ⟨g, cap, cur, rfl, h2, h3, h4, h5, _⟩
  · have e : l = [] := List.eq_nil_of_length_eq_zero h2
    subst e
    exact ⟨none, 0, h1, Nat.zero_le _, Nat.le_refl _, fun j s hs => by simp at hs, fun h => absurd h (by simp)⟩
  · refine ⟨_, cap, rfl, Nat.le_trans h4 h5, h4, fun j x hx => ⟨g, 0, rfl, ?_⟩, fun _ => ⟨g, rfl, h.low g rfl, cur, h3⟩⟩
    have := h.own.cells (g := g) rfl j (.int .i64 x) (by unfold ints; rw [List.getElem?_map, hx]; rfl)
    simpa [Addr.add_lit] using this
theorem IntRow.snoc {W w1 : World} {B : Nat} {v : Value} {l : List Int} {s : Int} {g c : Nat} (hr : IntRow W B v l)
    (ho : w1.ownsRow 0 3 1 (.slice (some ⟨g, 0, none⟩) (l.length + 1) c) (l.length + 1) (ints l ++ #[Value.int .i64 s].toList)) (hg : v.ownBlock = some g ∨ W.heap.size ≤ g) (hB : B ≤ W.heap.size) :
    IntRow w1 B (.slice (some ⟨g, 0, none⟩) (l.length + 1) c) (l ++ [s]) := by
  refine ⟨?_, fun k hk => ?_⟩
  · have e : ints (l ++ [s]) = ints l ++ #[Value.int .i64 s].toList := by simp [ints]
    rw [e, List.length_append]; exact ho
  · simp [Value.ownBlock] at hk
    subst hk
    rcases hg with h | h
    · exact hr.low g h
    · omega
set_option maxHeartbeats 1000000 in
set_option maxRecDepth 100000 in
theorem ints_any (a : Option Addr) (ca : Nat) (b : Option Addr) (cb : Nat) (la lb : List Int) (w : World) (ha : IntsAt w a la) (hb : IntsAt w b lb) (hz : la.length ≤ 1000000) :
    Calls Tryd.prog 11 #[.slice a la.length ca, .slice b lb.length cb] w fun e w' => e = .returned (.bool (la == lb)) ∧ Quiet0 w w' := by
  have HA := Lib.hid ha
  have HB := Lib.hid hb
  clear ha hb
  obtain ⟨res, hres⟩ : ∃ res, res = (la == lb) := ⟨_, rfl⟩
  have HRES := Lib.hid hres
  rw [← hres]
  clear hres
  by_cases hlen : la.length = lb.length
  · have b3 : ((la.length : Int) != (lb.length : Int)) = false := by simp [hlen]
    have HLE := Lib.hid hlen
    go_enter Tryd.func11, Tryd.ntmps11
    go_wp2_with fail
    go_loopw [5] (fun t wr => ∃ (i : Nat), t = .int .i64 i ∧ i ≤ la.length ∧ res = (la.drop i == lb.drop i) ∧ Quiet0 w wr) (fun t _ => la.length - (intOf t).toNat)
    case atStart => exact ⟨0, rfl, Nat.zero_le _, HRES.out, Quiet0.refl _⟩
    case round =>
      obtain ⟨i, rfl, hi, hr, hq⟩ := hrel
      have HR := Lib.hid hr
      have HQ := Lib.hid hq
      clear hr hq
      by_cases hlt : i < la.length
      · have hlt' : (i : Int) < la.length := by omega
        have hltb : (i : Int) < lb.length := by omega
        have hltb' : i < lb.length := by omega
        obtain ⟨x, hx⟩ : ∃ x, la[i]? = some x := ⟨_, List.getElem?_eq_getElem hlt⟩
        obtain ⟨y, hy⟩ : ∃ y, lb[i]? = some y := ⟨_, List.getElem?_eq_getElem hltb'⟩
        obtain ⟨ba, oa, rfl, c1⟩ := HA.out.stay HQ.out i x hx
        obtain ⟨bb, ob, rfl, c2⟩ := HB.out.stay HQ.out i y hy
        have HN : Hid (res = ((x == y) && (la.drop (i + 1) == lb.drop (i + 1)))) := by
          show _ = _
          rw [HR.out, drop_some hx, drop_some hy]; rfl
        clear hx hy
        cases hxy : (x != y)
        · have hxy' : (x == y) = true := by simpa using hxy
          rw [hxy'] at HN
          go_wp2_with fail
          go_quiet (fail)
          go_wp2_with fail
          go_roundw
          case rel => exact ⟨i + 1, by go_num, by omega, by rw [HN.out]; rfl, HQ.out.trans (Quiet0.drewN _ _)⟩
          case measure => simp [intOf]; omega
        · have hxy' : (x == y) = false := by simpa using hxy
          rw [hxy'] at HN
          go_wp2_with fail
          go_quiet (fail)
          go_wp2_with fail
          go_ret
          exact ⟨by rw [HN.out]; rfl, HQ.out.trans (Quiet0.drewN _ _)⟩
      · have hlt' : ¬ (i : Int) < la.length := by omega
        have HY : Hid (res = true) := by
          show _ = _
          rw [HR.out, List.drop_of_length_le (by omega), List.drop_of_length_le (by have := HLE.out; omega)]; rfl
        go_wp2_with fail
        go_ret
        exact ⟨by rw [HY.out]; rfl, HQ.out⟩
  · have b3 : ((la.length : Int) != (lb.length : Int)) = true := by simp; omega
    have HF : Hid (res = false) := by
      show _ = _
      rw [HRES.out]
      cases h : (la == lb)
      · rfl
      · exact absurd (by have := eq_of_beq h; rw [this]) hlen
    go_enter Tryd.func11, Tryd.ntmps11
    go_wp2_with fail
    go_ret
    exact ⟨by rw [HF.out]; rfl, Quiet0.refl _⟩
end Go.Proofs.YtdlcakmjihfgfaaDoor.Li
