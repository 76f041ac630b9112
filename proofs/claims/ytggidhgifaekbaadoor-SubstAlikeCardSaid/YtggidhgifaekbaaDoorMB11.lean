/-
  Texts laid together (SuOpen, TyLaid, TyShift, TyCanonPlain, SuRulesPlain, SuGreat2, SuSolved): what each one proves, and its conditions, stands at its head.
-/
import Derived.LaidMore
import Derived.Stop.Joined
import Derived.LaidLaws
import Derived.Lib.LaidTab
import Derived.Stop.LaidErr
import Derived.Deep.DeepCutAuto
import Derived.Test.YtggidhgifaekbaaDoorRows
import Derived.Test.YtggidhgifaekbaaDoorMB1
import Derived.Test.YtggidhgifaekbaaDoorMB2
import Derived.Test.YtggidhgifaekbaaDoorMB3
import Derived.Test.YtggidhgifaekbaaDoorMB4
import Derived.Test.YtggidhgifaekbaaDoorMB5
import Derived.Test.YtggidhgifaekbaaDoorMB6
import Derived.Test.YtggidhgifaekbaaDoorMB7
import Derived.Test.YtggidhgifaekbaaDoorMB8
import Derived.Test.YtggidhgifaekbaaDoorMB9
import Derived.Test.YtggidhgifaekbaaDoorMB10
/-
  Rows of binds and of equations that came in as arguments. No condition.
-/
namespace Go.Proofs.YtggidhgifaekbaaDoor
open Go.ChangeShapes Go.WideShapes Go.ChangeAt Go.RowKit

theorem list_of {α : Type} {P : Nat → α → Prop} : ∀ len : Nat, (∀ i, i < len → ∃ t, P i t) → ∃ l : List α, l.length = len ∧ ∀ i t, l[i]? = some t → P i t
  | 0, _ => ⟨[], rfl, fun i t h => by simp at h⟩
  | len + 1, h => by
    obtain ⟨l, hl, hp⟩ := list_of len (fun i hi => h i (by omega))
    obtain ⟨t, ht⟩ := h len (by omega)
    refine ⟨l ++ [t], by simp [hl], fun i u hu => ?_⟩
    by_cases hi : i < len
    · rw [List.getElem?_append_left (by omega)] at hu
      exact hp i u hu
    · have h2 : i < (l ++ [t]).length := (List.getElem?_eq_some_iff.1 hu).1
      have h3 : i = len := by simp [hl] at h2; omega
      subst h3
      rw [List.getElem?_append_right (by omega)] at hu
      simp [hl] at hu
      subst hu
      exact ht
section
variable {H : Type} {enc : TypeId × Value → H} {P : Program} {w : World} {base : Nat} {spare : Nat → Bool} {held : Bool}
theorem fields2 {te : TypeId} {f0 f1 : Field} {n0 n1 : Nat} (he : P.underlying te = some (.struct #[f0, f1])) (ce : P.cellsOf te = n0 + n1) (o0 : f0.offset = 0) (o1 : f1.offset = n0) (c0 : P.cellsOf f0.type = n0) (c1 : P.cellsOf f1.type = n1)
    {fuel : Nat} {cs : List Value} {x : DataW H × List MemPlace} (h : DataW.trod enc P w base spare held fuel te cs = some x) : ∃ (cs0 cs1 : List Value) (x0 x1 : DataW H × List MemPlace) (n : Nat), cs = cs0 ++ cs1 ∧ DataW.trod enc P w base spare held n f0.type cs0 = some x0 ∧ DataW.trod enc P w base spare held n f1.type cs1 = some x1 := by
  obtain ⟨xs, n', hn', _, hcl, hxl, hfx⟩ := DataW.trod_struct he h
  rw [ce] at hcl
  have hxl2 : xs.length = 2 := by simpa using hxl
  have s0 := hfx 0 f0 rfl
  have s1 := hfx 1 f1 rfl
  rw [c0, o0, show xs[0]? = some (xs[0]'(by omega)) from by simp [hxl2]] at s0
  rw [c1, o1, show xs[1]? = some (xs[1]'(by omega)) from by simp [hxl2]] at s1
  rw [List.drop_zero] at s0
  rw [List.take_of_length_le (by simp; omega)] at s1
  exact ⟨_, _, _, _, n', (List.take_append_drop n0 cs).symm, s0, s1⟩
theorem fields3 {te : TypeId} {f0 f1 f2 : Field} {n0 n1 n2 : Nat} (he : P.underlying te = some (.struct #[f0, f1, f2])) (ce : P.cellsOf te = n0 + n1 + n2) (o0 : f0.offset = 0) (o1 : f1.offset = n0) (o2 : f2.offset = n0 + n1) (c0 : P.cellsOf f0.type = n0) (c1 : P.cellsOf f1.type = n1) (c2 : P.cellsOf f2.type = n2)
    {fuel : Nat} {cs : List Value} {x : DataW H × List MemPlace} (h : DataW.trod enc P w base spare held fuel te cs = some x) : ∃ (cs0 cs1 cs2 : List Value) (x0 x1 x2 : DataW H × List MemPlace) (n : Nat), cs = cs0 ++ (cs1 ++ cs2) ∧ DataW.trod enc P w base spare held n f0.type cs0 = some x0 ∧ DataW.trod enc P w base spare held n f1.type cs1 = some x1 ∧ DataW.trod enc P w base spare held n f2.type cs2 = some x2 := by
  obtain ⟨xs, n', hn', _, hcl, hxl, hfx⟩ := DataW.trod_struct he h
  rw [ce] at hcl
  have hxl2 : xs.length = 3 := by simpa using hxl
  have s0 := hfx 0 f0 rfl
  have s1 := hfx 1 f1 rfl
  have s2 := hfx 2 f2 rfl
  rw [c0, o0, show xs[0]? = some (xs[0]'(by omega)) from by simp [hxl2]] at s0
  rw [c1, o1, show xs[1]? = some (xs[1]'(by omega)) from by simp [hxl2]] at s1
  rw [c2, o2, show xs[2]? = some (xs[2]'(by omega)) from by simp [hxl2]] at s2
  rw [List.drop_zero] at s0
  rw [List.take_of_length_le (by simp; omega)] at s2
  refine ⟨_, _, _, _, _, _, n', ?_, s0, s1, s2⟩
  rw [← List.drop_drop, List.take_append_drop, List.take_append_drop]
end
section
variable {H : Type} {enc : TypeId × Value → H} {w : World} {base : Nat} {spare : Nat → Bool} {held : Bool}
theorem open_typ {fuel : Nat} {cs : List Value} {x : DataW H × List MemPlace} (h : DataW.trod enc Tryd.prog w base spare held fuel 24 cs = some x) : ∃ k n o len cap f, cs = [.int .i64 k, .int .i64 n, .slice o len cap] ∧ Slc w o len f ∧ wfI n ∧ wfF f :=
  open_agg Tryd.underlying24 (by kernel_rfl) rfl rfl rfl (by kernel_rfl) (by kernel_rfl) (by kernel_rfl) Tryd.underlying3 Tryd.underlying3 Tryd.underlying22 h
theorem open_span {fuel : Nat} {cs : List Value} {x : DataW H × List MemPlace} (h : DataW.trod enc Tryd.prog w base spare held fuel 33 cs = some x) : ∃ k n, cs = [.int .i64 k, .int .i64 n] ∧ wfI k ∧ wfI n := by
  obtain ⟨cs0, cs1, x0, x1, n', rfl, s0, s1⟩ := fields2 (n0 := 1) (n1 := 1) Tryd.underlying33 (by kernel_rfl) rfl rfl (by kernel_rfl) (by kernel_rfl) h
  obtain ⟨z0, rfl, _, hw0⟩ := DataW.trod_int Tryd.underlying3 s0
  obtain ⟨z1, rfl, _, hw1⟩ := DataW.trod_int Tryd.underlying3 s1
  exact ⟨z0, z1, rfl, hw0, hw1⟩
theorem open_bind {fuel : Nat} {cs : List Value} {x : DataW H × List MemPlace} (h : DataW.trod enc Tryd.prog w base spare held fuel 91 cs = some x) : ∃ v k n o len cap f, cs = [.int .i64 v, .int .i64 k, .int .i64 n, .slice o len cap] ∧ Slc w o len f ∧ wfI v ∧ wfI n ∧ wfF f := by
  obtain ⟨cs0, cs1, x0, x1, n', rfl, s0, s1⟩ := fields2 (n0 := 1) (n1 := 3) Tryd.underlying91 (by kernel_rfl) rfl rfl (by kernel_rfl) (by kernel_rfl) h
  obtain ⟨z0, rfl, _, hw0⟩ := DataW.trod_int Tryd.underlying3 s0
  obtain ⟨k, n, o, len, cap, f, rfl, hs, hw1, hwf⟩ := open_typ s1
  exact ⟨z0, k, n, o, len, cap, f, rfl, hs, hw0, hw1, hwf⟩
theorem open_eq {fuel : Nat} {cs : List Value} {x : DataW H × List MemPlace} (h : DataW.trod enc Tryd.prog w base spare held fuel 93 cs = some x) : ∃ k1 n1 o1 l1 c1 p1 k2 n2 o2 l2 c2 p2 a b,
    cs = [.int .i64 k1, .int .i64 n1, .slice o1 l1 c1, .int .i64 k2, .int .i64 n2, .slice o2 l2 c2, .int .i64 a, .int .i64 b] ∧ (Slc w o1 l1 p1 ∧ wfI n1 ∧ wfF p1) ∧ (Slc w o2 l2 p2 ∧ wfI n2 ∧ wfF p2) ∧ wfI a ∧ wfI b := by
  obtain ⟨cs0, cs1, cs2, x0, x1, x2, n', rfl, s0, s1, s2⟩ := fields3 (n0 := 3) (n1 := 3) (n2 := 2) Tryd.underlying93 (by kernel_rfl) rfl rfl rfl (by kernel_rfl) (by kernel_rfl) (by kernel_rfl) h
  obtain ⟨k1, n1, o1, l1, c1, p1, rfl, hs1, hw1, hwf1⟩ := open_typ s0
  obtain ⟨k2, n2, o2, l2, c2, p2, rfl, hs2, hw2, hwf2⟩ := open_typ s1
  obtain ⟨a, b, rfl, ha, hb⟩ := open_span s2
  exact ⟨k1, n1, o1, l1, c1, p1, k2, n2, o2, l2, c2, p2, a, b, rfl, ⟨hs1, hw1, hwf1⟩, ⟨hs2, hw2, hwf2⟩, ha, hb⟩
/-- an argument that is a row of binds -/
theorem open_binds {ts : TypeId} {v : Value} {d : DataW H} {p : List MemPlace} (ht : Tryd.prog.underlying ts = some (.slice 91)) (hv : ∃ a len cap, v = .slice a len cap) (h : DataW.Trod enc Tryd.prog w base spare held ts v d p) :
    ∃ o c l, v = .slice o (List.length l) c ∧ BindsAt w o l ∧ (∀ t ∈ l, wfI t.1 ∧ wfI t.2.2.1 ∧ wfF t.2.2.2) ∧ l.length ≤ 9223372036854775807 ∧ l.length ≤ c := by
  obtain ⟨a0, l0, cc0, rfl⟩ := hv
  obtain ⟨fuel, hf⟩ := h
  rcases DataW.trod_slice ht hf with ⟨he, _⟩ | ⟨a, len, cap, elems, rest, n, hfu, he, _, _, hl, hm, hlen, hel, _⟩
  · simp [Value.cells] at he
    obtain ⟨rfl, rfl, rfl⟩ := he
    exact ⟨none, 0, [], rfl, fun i t h => by simp at h, fun t h => by simp at h, by simp, by simp⟩
  · simp [Value.cells] at he
    obtain ⟨rfl, rfl, rfl⟩ := he
    have hmx : l0 ≤ 9223372036854775807 := by unfold maxLen at *; omega
    have one : ∀ i, i < l0 → ∃ t : Bd, (∃ o len cap, w.cell? (a.add (i * 4)) = some (.int .i64 t.1) ∧ w.cell? (a.add (i * 4 + 1)) = some (.int .i64 t.2.1) ∧ w.cell? (a.add (i * 4 + 2)) = some (.int .i64 t.2.2.1) ∧ w.cell? (a.add (i * 4 + 3)) = some (.slice o len cap) ∧ Slc w o len t.2.2.2) ∧ wfI t.1 ∧ wfI t.2.2.1 ∧ wfF t.2.2.2 := by
      intro i hi
      have h1 := hel i hi
      rw [List.getElem?_eq_getElem (by omega)] at h1
      obtain ⟨cs', h2, h3⟩ := Option.bind_eq_some_iff.1 h1
      rw [show Tryd.prog.cellsOf 91 = 4 from by kernel_rfl] at h2
      obtain ⟨_, hcl, hcell⟩ := World.cells?_some h2
      obtain ⟨v, k, n, o, len, cap, f, rfl, hs, hw1, hw2, hwf⟩ := open_bind h3
      have e0 := hcell 0 (by omega)
      have e1 := hcell 1 (by omega)
      have e2 := hcell 2 (by omega)
      have e3 := hcell 3 (by omega)
      simp [Deep.add_add] at e0 e1 e2 e3
      exact ⟨(v, k, n, f), ⟨o, len, cap, e0, e1, e2, e3, hs⟩, hw1, hw2, hwf⟩
    obtain ⟨l, hll, hp⟩ := list_of l0 one
    subst hll
    refine ⟨some a, _, l, rfl, fun i t ht => ?_, fun t ht => ?_, hmx, hl⟩
    · obtain ⟨⟨o, len, cap, e0, e1, e2, e3, hs⟩, _⟩ := hp i t ht
      obtain ⟨t0, ht0⟩ : ∃ t0, l[0]? = some t0 := ⟨_, List.getElem?_eq_getElem (by have := (List.getElem?_eq_some_iff.1 ht).1; omega)⟩
      obtain ⟨⟨_, _, _, f0, _⟩, _⟩ := hp 0 t0 ht0
      rw [Nat.zero_mul] at f0
      obtain ⟨b, off, rfl⟩ := spot_none f0
      exact ⟨b, off, o, len, cap, rfl, by simpa [Addr.add_lit] using e0, by simpa [Addr.add_lit, Nat.add_assoc] using e1, by simpa [Addr.add_lit, Nat.add_assoc] using e2, by simpa [Addr.add_lit, Nat.add_assoc] using e3, hs⟩
    · obtain ⟨i, hi⟩ := List.getElem?_of_mem ht
      exact (hp i t hi).2
/-- an argument that is a row of equations -/
theorem open_eqs {ts : TypeId} {v : Value} {d : DataW H} {p : List MemPlace} (ht : Tryd.prog.underlying ts = some (.slice 93)) (hv : ∃ a len cap, v = .slice a len cap) (h : DataW.Trod enc Tryd.prog w base spare held ts v d p) :
    ∃ o c l, v = .slice o (List.length l) c ∧ EqsAt w o l ∧ (∀ t ∈ l, (wfI t.1.2.1 ∧ wfF t.1.2.2) ∧ wfI t.2.1.2.1 ∧ wfF t.2.1.2.2) ∧ l.length ≤ 9223372036854775807 ∧ l.length ≤ c := by
  obtain ⟨a0, l0, cc0, rfl⟩ := hv
  obtain ⟨fuel, hf⟩ := h
  rcases DataW.trod_slice ht hf with ⟨he, _⟩ | ⟨a, len, cap, elems, rest, n, hfu, he, _, _, hl, hm, hlen, hel, _⟩
  · simp [Value.cells] at he
    obtain ⟨rfl, rfl, rfl⟩ := he
    exact ⟨none, 0, [], rfl, fun i t h => by simp at h, fun t h => by simp at h, by simp, by simp⟩
  · simp [Value.cells] at he
    obtain ⟨rfl, rfl, rfl⟩ := he
    have hmx : l0 ≤ 9223372036854775807 := by unfold maxLen at *; omega
    have one : ∀ i, i < l0 → ∃ t : Eqn, (∃ o1 l1 c1 o2 l2 c2, w.cell? (a.add (i * 8)) = some (.int .i64 t.1.1) ∧ w.cell? (a.add (i * 8 + 1)) = some (.int .i64 t.1.2.1) ∧ w.cell? (a.add (i * 8 + 2)) = some (.slice o1 l1 c1) ∧
        w.cell? (a.add (i * 8 + 3)) = some (.int .i64 t.2.1.1) ∧ w.cell? (a.add (i * 8 + 4)) = some (.int .i64 t.2.1.2.1) ∧ w.cell? (a.add (i * 8 + 5)) = some (.slice o2 l2 c2) ∧
        w.cell? (a.add (i * 8 + 6)) = some (.int .i64 t.2.2.1) ∧ w.cell? (a.add (i * 8 + 7)) = some (.int .i64 t.2.2.2) ∧ Slc w o1 l1 t.1.2.2 ∧ Slc w o2 l2 t.2.1.2.2) ∧ (wfI t.1.2.1 ∧ wfF t.1.2.2) ∧ wfI t.2.1.2.1 ∧ wfF t.2.1.2.2 := by
      intro i hi
      have h1 := hel i hi
      rw [List.getElem?_eq_getElem (by omega)] at h1
      obtain ⟨cs', h2, h3⟩ := Option.bind_eq_some_iff.1 h1
      rw [show Tryd.prog.cellsOf 93 = 8 from by kernel_rfl] at h2
      obtain ⟨_, hcl, hcell⟩ := World.cells?_some h2
      obtain ⟨k1, n1, o1, l1, c1, p1, k2, n2, o2, l2, c2, p2, sa, sb, rfl, ⟨hs1, hw1, hwf1⟩, ⟨hs2, hw2, hwf2⟩, _, _⟩ := open_eq h3
      have e0 := hcell 0 (by omega)
      have e1 := hcell 1 (by omega)
      have e2 := hcell 2 (by omega)
      have e3 := hcell 3 (by omega)
      have e4 := hcell 4 (by omega)
      have e5 := hcell 5 (by omega)
      have e6 := hcell 6 (by omega)
      have e7 := hcell 7 (by omega)
      simp [Deep.add_add] at e0 e1 e2 e3 e4 e5 e6 e7
      exact ⟨((k1, n1, p1), (k2, n2, p2), sa, sb), ⟨o1, l1, c1, o2, l2, c2, e0, e1, e2, e3, e4, e5, e6, e7, hs1, hs2⟩, ⟨hw1, hwf1⟩, hw2, hwf2⟩
    obtain ⟨l, hll, hp⟩ := list_of l0 one
    subst hll
    refine ⟨some a, _, l, rfl, fun i t ht => ?_, fun t ht => ?_, hmx, hl⟩
    · obtain ⟨⟨o1, l1, c1, o2, l2, c2, e0, e1, e2, e3, e4, e5, e6, e7, hs1, hs2⟩, _⟩ := hp i t ht
      obtain ⟨t0, ht0⟩ : ∃ t0, l[0]? = some t0 := ⟨_, List.getElem?_eq_getElem (by have := (List.getElem?_eq_some_iff.1 ht).1; omega)⟩
      obtain ⟨⟨_, _, _, _, _, _, f0, _⟩, _⟩ := hp 0 t0 ht0
      rw [Nat.zero_mul] at f0
      obtain ⟨b, off, rfl⟩ := spot_none f0
      exact ⟨b, off, o1, l1, c1, o2, l2, c2, rfl, by simpa [Addr.add_lit] using e0, by simpa [Addr.add_lit, Nat.add_assoc] using e1, by simpa [Addr.add_lit, Nat.add_assoc] using e2, by simpa [Addr.add_lit, Nat.add_assoc] using e3, by simpa [Addr.add_lit, Nat.add_assoc] using e4, by simpa [Addr.add_lit, Nat.add_assoc] using e5, by simpa [Addr.add_lit, Nat.add_assoc] using e6, by simpa [Addr.add_lit, Nat.add_assoc] using e7, hs1, hs2⟩
    · obtain ⟨i, hi⟩ := List.getElem?_of_mem ht
      exact (hp i t hi).2
/-- an argument that is a row of numbers -/
theorem open_intv {ts : TypeId} {v : Value} {d : DataW H} {p : List MemPlace} (ht : Tryd.prog.underlying ts = some (.slice 3)) (hv : ∃ a len cap, v = .slice a len cap) (h : DataW.Trod enc Tryd.prog w base spare held ts v d p) :
    ∃ o c l, v = .slice o (List.length l) c ∧ IntsAt w o l ∧ (∀ x ∈ l, wfI x) ∧ l.length ≤ 9223372036854775807 := by
  obtain ⟨a0, l0, cc0, rfl⟩ := hv
  obtain ⟨fuel, hf⟩ := h
  rcases open_ints ht Tryd.underlying3 (by kernel_rfl) hf with ⟨he, _⟩ | ⟨a, len, cap, zs, he, _, hl, hm, hzl, _, hc, hw⟩
  · simp [Value.cells] at he
    obtain ⟨rfl, rfl, rfl⟩ := he
    exact ⟨none, 0, [], rfl, fun i t h => by simp at h, fun t h => by simp at h, by simp⟩
  · simp [Value.cells] at he
    obtain ⟨rfl, rfl, rfl⟩ := he
    have hle : l0 ≤ zs.length := by rw [hzl]; split <;> omega
    have htl : (zs.take l0).length = l0 := by rw [List.length_take]; omega
    have hsp : ∀ i, i < zs.length → ∃ b off, a = ⟨b, off, none⟩ := fun i hi => by
      have := hc 0 (by omega)
      exact spot_none this
    refine ⟨some a, cc0, zs.take l0, by rw [htl], fun i x hx => ?_, fun x hx => hw x (List.mem_of_mem_take hx), by rw [htl]; unfold maxLen at hm; omega⟩
    have hi : i < l0 := by have := (List.getElem?_eq_some_iff.1 hx).1; omega
    obtain ⟨b, off, rfl⟩ := hsp i (by omega)
    have h1 := hc i (by omega)
    rw [List.getElem?_take_of_lt hi] at hx
    rw [List.getD_eq_getElem?_getD, hx] at h1
    exact ⟨b, off, rfl, by simpa [Addr.add_lit] using h1⟩
end
end Go.Proofs.YtggidhgifaekbaaDoor
/-
  What the rows' condition on listed variables gives: the table of powers of ten holds what its initialiser lays; a world that meets it (the door's own). No condition.
-/
namespace Go.Proofs.YtggidhgifaekbaaDoor
open Go.ChangeShapes Go.WideShapes Go.ChangeAt Go.RowKit

def doorSteps : Nat := 48
def laidL : List (String × DataW Unit) := [("math/bits.deBruijn32tab", Rows.laid_math_bits_deBruijn32tab), ("math/bits.deBruijn64tab", Rows.laid_math_bits_deBruijn64tab), ("internal/strconv.uint64pow10", Rows.laid_internal_strconv_uint64pow10)]
set_option maxRecDepth 100000 in
theorem pow10_data : (Rows.laid_internal_strconv_uint64pow10 : DataW Unit) = Lib.tabData .u64 Lib.pow10Tab := by rfl
set_option maxRecDepth 100000 in
theorem door_met (os : Os) (args : Array Value) : laidMetH Tryd.prog laidL ((World.doorLaid Tryd.prog doorSteps os).forCall (fun _ _ => 0) ⟨#[], args, []⟩).memory :=
  laidMetH_of_parts3 (fuel := 8) (laidMet_of_run' 8 (by kernel_rfl) (by kernel_rfl)) (by kernel_rfl) (by kernel_rfl)
set_option maxRecDepth 100000 in
theorem pow10_of_laid {W : World} (h : laidMetH Tryd.prog laidL W) : Pow10 W := by
  rw [MakeChecks.laidMetH_plain _ _ _ (by kernel_rfl)] at h
  have h2 := laidMet.tail (laidMet.tail h)
  rw [pow10_data] at h2
  exact Lib.tabIs_of_head (g := 3) (n := 20) (by kernel_rfl) (by kernel_rfl) (t := 160) (e := 148) Tryd.underlying160 Tryd.underlying148 (by kernel_rfl) (by kernel_rfl) h2
end Go.Proofs.YtggidhgifaekbaaDoor
/-
  types.Shift from 0 on. Conditions: the type lies in memory as told; its numbers are below what is told; it is small.
-/
namespace Go.Proofs.YtggidhgifaekbaaDoor
open Go.RowKit Go.Maps

def shiftP (by' : Int) (n : Int) : Int := if n + by' < 1073741824 then n + by' else n
def shiftG (tt : Int) (n : Int) : Prop := 0 ≤ n ∧ n < tt ∧ n < 1073741824
theorem eg_shift : ∀ args w, (callFunc 83 args).run Tryd.prog w = .ok (.enter 83 args) w := enters_of Tryd.func83 (by kernel_rfl) rfl
set_option maxHeartbeats 1000000 in
theorem shift1_any (w0 : World) (ca cb cc : Nat) (tt by' : Int) (h1 : Box1 w0 ca (.int .i64 0) 3) (h2 : Box1 w0 cb (.int .i64 tt) 3) (h3 : Box1 w0 cc (.int .i64 by') 3) (hb0 : 0 ≤ by') (hb1 : by' < 1073741824) :
    DoK 83 #[.pointer (some ⟨ca, 0, none⟩), .pointer (some ⟨cb, 0, none⟩), .pointer (some ⟨cc, 0, none⟩)] w0 (shiftG tt) (shiftP by') := by
  intro n W hn hq
  obtain ⟨n0, n1, n2⟩ := hn
  have c1 := cell_of_one (h1.fr hq (fun h => h))
  have c2 := cell_of_one (h2.fr hq (fun h => h))
  have c3 := cell_of_one (h3.fr hq (fun h => h))
  have q1 : ¬ n < 0 := by omega
  have q2 : ¬ tt ≤ n := by omega
  have q3 : ¬ (1073741824 : Int) ≤ by' := by omega
  have q4 : ¬ by' ≤ -1073741824 := by omega
  have hw : IntKind.i64.wrap (n + by') = n + by' := IntWalk.i64_in _ (by omega)
  have HK1 := Lib.hid (known_any n)
  rw [show (decide ((0 : Int) ≤ n) && decide (n < 1073741824)) = true from by simp; omega] at HK1
  have HK2 := Lib.hid (known_any (n + by'))
  clear h1 h2 h3
  unfold shiftP
  by_cases hlt : n + by' < 1073741824
  · rw [show (decide ((0 : Int) ≤ n + by') && decide (n + by' < 1073741824)) = true from by simp; omega] at HK2
    rw [if_pos hlt]
    clear hlt
    go_enter Tryd.func83, Tryd.ntmps83
    go_wp2_with fail
    refine (HK1.out _).mono ?_; rintro e w1 ⟨rfl, rfl⟩
    go_wp2_with fail
    refine (HK2.out _).mono ?_; rintro e w1 ⟨rfl, rfl⟩
    go_wp2_with fail
    go_ret
    exact ⟨rfl, Quiet0.refl _⟩
  · rw [show (decide ((0 : Int) ≤ n + by') && decide (n + by' < 1073741824)) = false from by simp; omega] at HK2
    rw [if_neg hlt]
    clear hlt
    go_enter Tryd.func83, Tryd.ntmps83
    go_wp2_with fail
    refine (HK1.out _).mono ?_; rintro e w1 ⟨rfl, rfl⟩
    go_wp2_with fail
    refine (HK2.out _).mono ?_; rintro e w1 ⟨rfl, rfl⟩
    go_wp2_with fail
    go_ret
    exact ⟨rfl, Quiet0.refl _⟩
set_option maxHeartbeats 2000000 in
set_option maxRecDepth 100000 in
theorem shift_any (k n tt by' : Int) (ps : Fo) (w : World) (o : Option Addr) (len cap : Nat) (hs : Slc w o len ps) (hn : shiftG tt n) (hw : allF (shiftG tt) ps) (hb0 : 0 ≤ by') (hb1 : by' < 1073741824) (hsz : ps.size ≤ 100000) :
    Calls Tryd.prog 37 #[tyv k n o len cap, .int .i64 0, .int .i64 tt, .int .i64 by'] w fun e w' => ∃ o' cap', e = .returned (tyv k (newN (shiftP by') k n) o' len cap') ∧ SlcIn (fun b => w.heap.size ≤ b) w' o' len (ps.change (shiftP by')) ∧ Quiet0 w w' := by
  obtain ⟨W1, hW1⟩ : ∃ W1, W1 = ((((w.alloc (.cells #[.int .i64 k, .int .i64 n, .slice o len cap] 24)).alloc (.cells #[.int .i64 0] 3)).alloc (.cells #[.int .i64 tt] 3)).alloc (.cells #[.int .i64 by'] 3)).alloc (.cells #[.int .i64 0, .int .i64 0, .slice none 0 0] 24) := ⟨_, rfl⟩
  have HQ1 : Hid (Quiet0 w W1) := by rw [hW1]; exact ((((Quiet0.alloc _ _).trans (Quiet0.alloc _ _)).trans (Quiet0.alloc _ _)).trans (Quiet0.alloc _ _)).trans (Quiet0.alloc _ _)
  have s1 : (w.alloc (.cells #[.int .i64 k, .int .i64 n, .slice o len cap] 24)).heap.size = w.heap.size + 1 := by simp
  have s2 : ((w.alloc (.cells #[.int .i64 k, .int .i64 n, .slice o len cap] 24)).alloc (.cells #[.int .i64 0] 3)).heap.size = w.heap.size + 1 + 1 := by simp
  have s3 : (((w.alloc (.cells #[.int .i64 k, .int .i64 n, .slice o len cap] 24)).alloc (.cells #[.int .i64 0] 3)).alloc (.cells #[.int .i64 tt] 3)).heap.size = w.heap.size + 1 + 1 + 1 := by simp
  have s4 : ((((w.alloc (.cells #[.int .i64 k, .int .i64 n, .slice o len cap] 24)).alloc (.cells #[.int .i64 0] 3)).alloc (.cells #[.int .i64 tt] 3)).alloc (.cells #[.int .i64 by'] 3)).heap.size = w.heap.size + 1 + 1 + 1 + 1 := by simp
  have hb0' : W1.heap[w.heap.size]? = some (.cells #[.int .i64 k, .int .i64 n, .slice o len cap] 24 (0, 0)) := by
    rw [hW1]; exact box_after (heap_alloc_new w _) ((((Quiet0.alloc _ _).trans (Quiet0.alloc _ _)).trans (Quiet0.alloc _ _)).trans (Quiet0.alloc _ _))
  have HB1 : Hid (W1.heap[w.heap.size + 1 + 1 + 1 + 1]? = some (.cells #[.int .i64 0, .int .i64 0, .slice none 0 0] 24 (0, 0))) := by
    rw [hW1, ← s4]; exact heap_alloc_new _ _
  have x1 : Box1 W1 (w.heap.size + 1) (.int .i64 0) 3 := by
    rw [hW1, ← s1]; exact (Box1.new _ _ _).fr (((Quiet0.alloc _ _).trans (Quiet0.alloc _ _)).trans (Quiet0.alloc _ _)) (fun h => h)
  have x2 : Box1 W1 (w.heap.size + 1 + 1) (.int .i64 tt) 3 := by
    rw [hW1, ← s2]; exact (Box1.new _ _ _).fr ((Quiet0.alloc _ _).trans (Quiet0.alloc _ _)) (fun h => h)
  have x3 : Box1 W1 (w.heap.size + 1 + 1 + 1) (.int .i64 by') 3 := by
    rw [hW1, ← s3]; exact (Box1.new _ _ _).fr (Quiet0.alloc _ _) (fun h => h)
  have HD := Lib.hid (change_any eg_shift (shift1_any W1 (w.heap.size + 1) (w.heap.size + 1 + 1) (w.heap.size + 1 + 1 + 1) tt by' x1 x2 x3 hb0 hb1) k n ps W1 o len cap (Quiet0.refl _) (hs.stay HQ1.out) (by omega) hn hw)
  obtain ⟨a0, a1, a2, _, _, _⟩ := box_cells3 hb0'
  have hz1 : w.heap.size + 1 + 1 + 1 + 1 < W1.heap.size := by rw [hW1]; simp
  obtain ⟨P, hP⟩ : ∃ P, P = shiftP by' := ⟨_, rfl⟩
  rw [← hP] at HD ⊢
  generalize newN P k n = n' at *
  clear hs hn hw s1 s2 s3 s4 x1 x2 x3 hb0' hP
  unfold tyv at *
  go_enter Tryd.func37, Tryd.ntmps37
  generalize hB : w.heap.size = B at *
  go_upto_region 1 with fail
  rw [← hW1]
  clear hW1
  go_wp2_with fail
  refine HD.out.mono ?_; rintro e w4 ⟨o2, cap2, rfl, hs4, hq4⟩
  have hbb := box_after HB1.out hq4
  have HB4 := Lib.hid hbb
  obtain ⟨d0, d1, d2, y0, y1, y2⟩ := box_cells3 hbb
  have HS4 := Lib.hid hs4
  have HQ4 := Lib.hid hq4
  clear hs4 hq4 hbb a0 a1 a2
  go_wp2_with fail
  clear d0 d1 d2 y0 y1 y2
  have hf := put3_fr w4 (B + 1 + 1 + 1 + 1) (.int .i64 k) (.int .i64 n') (.slice o2 len cap2)
  obtain ⟨f0, f1, f2⟩ := put3_cells (a := .int .i64 k) (b := .int .i64 n') (c := .slice o2 len cap2) HB4.out
  change bodyPost _ _ _ _ _ (put3 w4 (B + 1 + 1 + 1 + 1) (.int .i64 k) (.int .i64 n') (.slice o2 len cap2))
  generalize put3 w4 (B + 1 + 1 + 1 + 1) (.int .i64 k) (.int .i64 n') (.slice o2 len cap2) = wf at *
  refine bodyPost_ret (by simp [results, Tryd.results37, go_sem, f0, f1, f2]; rfl) rfl ?_
  refine ⟨o2, cap2, rfl, HS4.out.fr hf ?_, ?_⟩
  · intro j _ hj
    have hj' : W1.heap.size ≤ j := hj
    exact ⟨by have := HQ1.out.size; omega, by omega⟩
  · exact Fr.trans' (Fr.trans' HQ1.out HQ4.out (fun _ _ h => h)) hf (fun i hi h => by have h' : i = B + 1 + 1 + 1 + 1 := h; omega)
end Go.Proofs.YtggidhgifaekbaaDoor
/-
  The plain law behind TypesCanon: Canon of Canon is the same; variables that are others, one for one, have the same Canon. No program in sight.
-/
namespace Go.Proofs.YtggidhgifaekbaaDoor

/-- renaming the variables one for one renames the row of variables -/
theorem inB_iff (l : List Int) (v : Int) : inB l v = true ↔ v ∈ l := by unfold inB; simp
theorem newN_cases (p : Int → Int) (k n : Int) : (k = 1 → newN p k n = p n) ∧ (k ≠ 1 → newN p k n = n) := by
  constructor
  · intro h; subst h; rfl
  · intro h
    have : (k == 1) = false := by simp [h]
    unfold newN; rw [this]; rfl
/-- all variables of a row of types are such -/
def varsAll (G : Int → Prop) : Fo → Prop
  | .nil => True
  | .cons k n ps r => (k = 1 → G n) ∧ varsAll G ps ∧ varsAll G r
theorem varsAll_mono {G H : Int → Prop} (h : ∀ n, G n → H n) : ∀ f : Fo, varsAll G f → varsAll H f
  | .nil, _ => trivial
  | .cons _ _ ps r, hf => ⟨fun e => h _ (hf.1 e), varsAll_mono h ps hf.2.1, varsAll_mono h r hf.2.2⟩
theorem vars_map (p : Int → Int) (G : Int → Prop) (hi : ∀ a b, G a → G b → p a = p b → a = b) : ∀ (f : Fo) (l : List Int), (∀ v ∈ l, G v) → varsAll G f →
    Fo.vars (l.map p) (f.change p) = (Fo.vars l f).map p ∧ (∀ v ∈ Fo.vars l f, G v)
  | .nil, l, hl, _ => ⟨rfl, hl⟩
  | .cons k n ps r, l, hl, hf => by
    have hstep : (varStep (l.map p) k (if k == 1 then p n else n) (ps.change p)) = (varStep l k n ps).map p ∧ (∀ v ∈ varStep l k n ps, G v) := by
      unfold varStep
      cases hk : (k == 1)
      · exact ⟨by simp, by simpa using hl⟩
      · have hk' : k = 1 := by simpa using hk
        have hgn := hf.1 hk'
        have hb : inB (l.map p) (p n) = inB l n := by
          rw [Bool.eq_iff_iff, inB_iff, inB_iff]
          constructor
          · intro h
            obtain ⟨a, ha, he⟩ := List.mem_map.1 h
            rw [← hi a n (hl a ha) hgn he]; exact ha
          · intro h; exact List.mem_map.2 ⟨n, h, rfl⟩
        simp only [if_true, hb, Bool.true_and]
        cases inB l n
        · refine ⟨by simp, ?_⟩
          intro v hv
          simp at hv
          rcases hv with h | h
          · exact hl v h
          · rw [h]; exact hgn
        · exact ⟨by simp, by simpa using hl⟩
    have h1 := vars_map p G hi ps (varStep l k n ps) hstep.2 hf.2.1
    have h2 := vars_map p G hi r (Fo.vars (varStep l k n ps) ps) h1.2 hf.2.2
    show Fo.vars (Fo.vars (varStep (l.map p) k (if k == 1 then p n else n) (ps.change p)) (ps.change p)) (r.change p) = (Fo.vars (Fo.vars (varStep l k n ps) ps) r).map p ∧ ∀ v ∈ Fo.vars (Fo.vars (varStep l k n ps) ps) r, G v
    rw [hstep.1, h1.1, h2.1]
    exact ⟨rfl, h2.2⟩
theorem vars_sub : ∀ (f : Fo) (l : List Int), (∀ v ∈ l, v ∈ Fo.vars l f) ∧ varsAll (fun v => v ∈ Fo.vars l f) f
  | .nil, l => ⟨fun v h => h, trivial⟩
  | .cons k n ps r, l => by
    rw [vars_cons]
    have h1 := vars_sub ps (varStep l k n ps)
    have h2 := vars_sub r (Fo.vars (varStep l k n ps) ps)
    have h0 : ∀ v ∈ l, v ∈ varStep l k n ps := by
      intro v hv; unfold varStep; split
      · exact List.mem_append_left _ hv
      · exact hv
    refine ⟨fun v hv => h2.1 v (h1.1 v (h0 v hv)), ?_, varsAll_mono (fun v hv => h2.1 v hv) ps h1.2, h2.2⟩
    intro hk
    subst hk
    apply h2.1; apply h1.1
    unfold varStep
    cases hb : inB l n
    · simp
    · simpa using (inB_iff l n).1 hb
theorem vars_nodup : ∀ (f : Fo) (l : List Int), l.Nodup → (Fo.vars l f).Nodup
  | .nil, l, h => h
  | .cons k n ps r, l, h => by
    rw [vars_cons]
    refine vars_nodup r _ (vars_nodup ps _ ?_)
    unfold varStep
    split
    · rename_i hc
      have hn : n ∉ l := by
        intro hm
        have := (inB_iff l n).2 hm
        simp [this] at hc
      rw [List.nodup_append]
      exact ⟨h, by simp, by intro a ha b hb; simp at hb; subst hb; intro e; subst e; exact hn ha⟩
    · exact h
/-- the place of what stands at i is i -/
theorem place_get (l : List Int) (hd : l.Nodup) : ∀ (m i : Nat) (v : Int), l[i]? = some v → i < m → m ≤ l.length → placeN l m v = i
  | 0, i, v, _, h, _ => by omega
  | m + 1, i, v, hv, h, hm => by
    show (if l[m]? = some v then (m : Int) else placeN l m v) = i
    by_cases he : i = m
    · subst he; rw [if_pos hv]
    · rw [if_neg ?_]
      · exact place_get l hd m i v hv (by omega) (by omega)
      · intro h2
        have h3 := (List.getElem?_inj (by have := (List.getElem?_eq_some_iff.1 hv).1; exact this) hd).1 (hv.trans h2.symm)
        omega
theorem place_inj (l : List Int) (hd : l.Nodup) (a b : Int) (ha : a ∈ l) (hb : b ∈ l) (h : placeN l l.length a = placeN l l.length b) : a = b := by
  obtain ⟨i, hi⟩ := List.getElem?_of_mem ha
  obtain ⟨j, hj⟩ := List.getElem?_of_mem hb
  have hi' := (List.getElem?_eq_some_iff.1 hi).1
  have hj' := (List.getElem?_eq_some_iff.1 hj).1
  rw [place_get l hd _ i a hi hi' (Nat.le_refl _), place_get l hd _ j b hj hj' (Nat.le_refl _)] at h
  have : i = j := by omega
  subst this
  rw [hi] at hj
  simpa using hj
theorem change_change (p q r : Int → Int) (G : Int → Prop) (h : ∀ v, G v → q (p v) = r v) : ∀ f : Fo, varsAll G f → (f.change p).change q = f.change r
  | .nil, _ => rfl
  | .cons k n ps rr, hf => by
    have h1 := change_change p q r G h ps hf.2.1
    have h2 := change_change p q r G h rr hf.2.2
    show Fo.cons k (if k == 1 then q (if k == 1 then p n else n) else (if k == 1 then p n else n)) ((ps.change p).change q) ((rr.change p).change q) = Fo.cons k (if k == 1 then r n else n) (ps.change r) (rr.change r)
    rw [h1, h2]
    cases hk : (k == 1)
    · rfl
    · simp only [if_true]; rw [h n (hf.1 (by simpa using hk))]
/-- Canon of what was renamed one for one -/
theorem canon_change (f : Fo) (p : Int → Int) (hi : ∀ a b, a ∈ Fo.vars [] f → b ∈ Fo.vars [] f → p a = p b → a = b) :
    (f.change p).change (placeN (Fo.vars [] (f.change p)) (Fo.vars [] (f.change p)).length) = f.change (placeN (Fo.vars [] f) (Fo.vars [] f).length) := by
  have hv := (vars_map p (fun v => v ∈ Fo.vars [] f) hi f [] (fun v h => by cases h) (vars_sub f []).2).1
  rw [List.map_nil] at hv
  rw [hv]
  have hnd := vars_nodup f [] List.nodup_nil
  have hnd2 : ((Fo.vars [] f).map p).Nodup := by
    rw [← hv]; exact vars_nodup _ [] List.nodup_nil
  refine change_change p _ _ (fun v => v ∈ Fo.vars [] f) ?_ f (vars_sub f []).2
  intro v hvm
  obtain ⟨i, hi'⟩ := List.getElem?_of_mem hvm
  have hl := (List.getElem?_eq_some_iff.1 hi').1
  rw [place_get (Fo.vars [] f) hnd _ i v hi' hl (Nat.le_refl _)]
  rw [place_get ((Fo.vars [] f).map p) hnd2 _ i (p v) (by rw [List.getElem?_map, hi']; rfl) (by simpa using hl) (Nat.le_refl _)]
end Go.Proofs.YtggidhgifaekbaaDoor
/-
  Substitutions one behind the other, in plain words. No program in sight.
-/
namespace Go.Proofs.YtggidhgifaekbaaDoor
open Go.RowKit Go.Maps

theorem find_map_then (b : List Bd) (v : Int) : ∀ l : List Bd, findB (l.map (thenF b)) v = (findB l v).map (thenF b)
  | [] => rfl
  | t :: r => by
    unfold findB
    rw [List.map_cons, List.find?_cons, List.find?_cons]
    show (match (t.1 == v) with | true => some (thenF b t) | false => _) = _
    cases (t.1 == v)
    · exact find_map_then b v r
    · rfl
theorem find_filter (p : Bd → Bool) (v : Int) (hp : ∀ t : Bd, t.1 = v → p t = true) : ∀ l : List Bd, findB (l.filter p) v = findB l v
  | [] => rfl
  | t :: r => by
    have ih := find_filter p v hp r
    have hc : ∀ (u : Bd) (l : List Bd), findB (u :: l) v = if u.1 = v then some u else findB l v := fun u l => by
      unfold findB; rw [List.find?_cons]
      by_cases h : u.1 = v
      · simp [h]
      · rw [show (u.1 == v) = false from by simp [h], if_neg h]
    rw [hc t r, List.filter_cons]
    by_cases he : t.1 = v
    · rw [hp t he, if_pos rfl, hc, if_pos he, if_pos he]
    · rw [if_neg he]
      cases hpt : p t
      · simp only [Bool.false_eq_true, if_false]; exact ih
      · rw [if_pos rfl, hc, if_neg he]; exact ih
theorem hasB_find {l : List Bd} {v : Int} : hasB l v = false ↔ findB l v = none := findB_none.symm
theorem find_append (a b : List Bd) (v : Int) : findB (a ++ b) v = (findB a v).or (findB b v) := by unfold findB; exact List.find?_append
theorem find_then (a b : List Bd) (v : Int) : findB (thenB a b) v = match findB a v with | some t => some (thenF b t) | none => findB b v := by
  unfold thenB
  rw [find_append, find_map_then, first_find]
  cases h : findB a v with
  | some t => rfl
  | none =>
    rw [find_filter _ v (fun t ht => by rw [ht, hasB_find.2 h]; rfl), first_find]; rfl
theorem hit_then (a b : List Bd) (k n : Int) : hit (thenB a b) k n = match hit a k n with | some t => some (thenF b t) | none => hit b k n := by
  unfold hit
  cases k == 1
  · rfl
  · simp only [if_true]; exact find_then a b n
theorem subst_then (a b : List Bd) : ∀ f : Fo, substF (thenB a b) f = substF b (substF a f)
  | .nil => rfl
  | .cons k n ps r => by
    have i1 := subst_then a b ps
    have i2 := subst_then a b r
    have hh := hit_then a b k n
    simp only [substF]
    rw [hh]
    cases h : hit a k n with
    | some t => simp only []; rw [substF_cons, i2]; rfl
    | none =>
      simp only [substF]
      cases hit b k n with
      | some u => simp only []; rw [i2]
      | none => simp only []; rw [i1, i2]
/-- the head of what comes of a type -/
theorem head_then (a b : List Bd) (k n : Int) (ps : Fo) : sK (thenB a b) k n = sK b (sK a k n) (sN a k n) ∧ sN (thenB a b) k n = sN b (sK a k n) (sN a k n) ∧ sP (thenB a b) k n ps = sP b (sK a k n) (sN a k n) (sP a k n ps) := by
  have h := subst_then a b (.cons k n ps .nil)
  rw [substF_cons, substF_cons, substF_cons] at h
  injection h with h1 h2 h3
  exact ⟨h1, h2, h3⟩
theorem subst_none (l : List Bd) : ∀ f : Fo, varsAll (fun v => hasB l v = false) f → substF l f = f
  | .nil, _ => rfl
  | .cons k n ps r, h => by
    obtain ⟨h1, h2, h3⟩ := h
    have hh : hit l k n = none := by
      unfold hit
      cases hk : k == 1
      · rfl
      · simp only [if_true]; exact hasB_find.1 (h1 (by simpa using hk))
    simp only [substF]
    rw [hh]
    simp only []
    rw [subst_none l ps h2, subst_none l r h3]
theorem solved_bind {l : List Bd} (h : solvedB l = true) {v : Int} {t : Bd} (ht : findB l v = some t) : substF l (.cons t.2.1 t.2.2.1 t.2.2.2 .nil) = .cons t.2.1 t.2.2.1 t.2.2.2 .nil := by
  refine subst_none l _ ?_
  unfold solvedB at h
  have hm : t ∈ firstB l := by rw [← first_find] at ht; exact (findB_mem ht).1
  have h2 : solvedP l t = false := by
    have h3 : (firstB l).any (solvedP l) = false := by simpa using h
    exact (List.any_eq_false.1 h3 t hm) |> (by simpa using ·)
  unfold solvedP at h2
  refine varsAll_mono (fun n hn => ?_) _ (vars_sub (.cons t.2.1 t.2.2.1 t.2.2.2 .nil) []).2
  have := (List.any_eq_false.1 h2) n hn
  simpa using this
theorem subst_solved {l : List Bd} (h : solvedB l = true) : ∀ f : Fo, substF l (substF l f) = substF l f
  | .nil => rfl
  | .cons k n ps r => by
    have i1 := subst_solved h ps
    have i2 := subst_solved h r
    simp only [substF]
    cases hh : hit l k n with
    | some t =>
      simp only []
      have ht : ∃ v, findB l v = some t := by
        unfold hit at hh
        cases hk : k == 1
        · rw [hk] at hh; cases hh
        · rw [hk] at hh; exact ⟨n, hh⟩
      obtain ⟨v, hv⟩ := ht
      have h3 := solved_bind h hv
      rw [substF_cons] at h3
      injection h3 with e1 e2 e3
      rw [substF_cons, i2, e1, e2, e3]
    | none =>
      simp only [substF]
      rw [hh]
      simp only []
      rw [i1, i2]
theorem head_solved {l : List Bd} (h : solvedB l = true) (k n : Int) (ps : Fo) : sK l (sK l k n) (sN l k n) = sK l k n ∧ sN l (sK l k n) (sN l k n) = sN l k n ∧ sP l (sK l k n) (sN l k n) (sP l k n ps) = sP l k n ps := by
  have h := subst_solved h (.cons k n ps .nil)
  rw [substF_cons, substF_cons] at h
  injection h with h1 h2 h3
  exact ⟨h1, h2, h3⟩

theorem wfF_subst (l : List Bd) (hl : ∀ t ∈ l, wfI t.2.2.1 ∧ wfF t.2.2.2) : ∀ f : Fo, wfF f → wfF (substF l f)
  | .nil, _ => trivial
  | .cons k n ps r, h => by
    obtain ⟨h1, h2, h3⟩ := h
    simp only [substF]
    cases hh : hit l k n with
    | some t =>
      have hm : t ∈ l := by
        unfold hit at hh
        cases hk : k == 1
        · rw [hk] at hh; cases hh
        · rw [hk] at hh; exact (findB_mem hh).1
      exact ⟨(hl t hm).1, (hl t hm).2, wfF_subst l hl r h3⟩
    | none => exact ⟨h1, wfF_subst l hl ps h2, wfF_subst l hl r h3⟩
theorem wf_subst (l : List Bd) (hl : ∀ t ∈ l, wfI t.2.2.1 ∧ wfF t.2.2.2) (k n : Int) (ps : Fo) (hn : wfI n) (hw : wfF ps) : wfI (sN l k n) ∧ wfF (sP l k n ps) := by
  have h := wfF_subst l hl (.cons k n ps .nil) ⟨hn, hw, trivial⟩
  rw [substF_cons] at h
  exact ⟨h.1, h.2.1⟩
/-- how many types all binds have -/
def sumz : List Bd → Nat
  | [] => 0
  | t :: r => t.2.2.2.size + 1 + sumz r
theorem sumz_snoc : ∀ (l : List Bd) (t : Bd), sumz (l ++ [t]) = sumz l + (t.2.2.2.size + 1)
  | [], t => by simp [sumz]
  | u :: r, t => by simp [sumz, sumz_snoc r t]; omega
theorem sumz_mem : ∀ (l : List Bd) (t : Bd), t ∈ l → t.2.2.2.size + 1 ≤ sumz l
  | [], t, h => by simp at h
  | u :: r, t, h => by
    rcases List.mem_cons.1 h with rfl | h
    · simp only [sumz]; omega
    · have := sumz_mem r t h; simp only [sumz]; omega
theorem sumz_take (l : List Bd) (i : Nat) (t : Bd) (h : l[i]? = some t) : sumz (l.take (i + 1)) = sumz (l.take i) + (t.2.2.2.size + 1) := by
  rw [List.take_add_one, h]; exact sumz_snoc _ _
/-- is there more than is asked of? -/
def g10 (l : List Bd) : Bool := (l.take 30).any (fun t => greatF t.2.2.2) || decide (24 < l.length) || decide (400 < sumz (l.take 30))
def gr10 (l : List Bd) : Bool := g10 l || decide (60 < sumz l)
theorem g10_few {l : List Bd} (h : g10 l = false) : l.length ≤ 24 ∧ ∀ t ∈ l, t.2.2.2.size ≤ 300 := by
  unfold g10 at h
  simp at h
  obtain ⟨⟨h1, h2⟩, h3⟩ := h
  refine ⟨h2, fun t ht => ?_⟩
  have hg := h1 t.1 t.2.1 t.2.2.1 t.2.2.2 (by rw [List.take_of_length_le (by omega)]; exact ht)
  have := great_size hg
  omega
theorem gr10_few {l : List Bd} (h : gr10 l = false) : l.length ≤ 24 ∧ ∀ t ∈ l, t.2.2.2.size ≤ 59 := by
  unfold gr10 at h
  simp at h
  refine ⟨(g10_few h.1).1, fun t ht => ?_⟩
  have := sumz_mem l t ht
  omega
theorem then_len (a b : List Bd) : (thenB a b).length ≤ a.length + b.length := by
  have h1 := first_length a
  have h2 := first_length b
  have h3 := List.length_filter_le (fun t : Bd => !hasB a t.1) (firstB b)
  unfold thenB
  rw [List.length_append, List.length_map]
  omega
theorem then_mem {a b : List Bd} {P : Bd → Prop} (ha : ∀ t ∈ a, P (thenF b t)) (hb : ∀ t ∈ b, P t) : ∀ t ∈ thenB a b, P t := by
  intro t ht
  unfold thenB at ht
  rcases List.mem_append.1 ht with h | h
  · obtain ⟨u, hu, rfl⟩ := List.mem_map.1 h
    rcases first_sub a [] u hu with h | h
    · simp at h
    · exact ha u h
  · have h := (List.mem_filter.1 h).1
    rcases first_sub b [] t h with h | h
    · simp at h
    · exact hb t h
theorem then_size {a b : List Bd} {m n : Nat} (ha : ∀ t ∈ a, t.2.2.2.size ≤ m) (hb : ∀ t ∈ b, t.2.2.2.size ≤ n) : ∀ t ∈ thenB a b, t.2.2.2.size ≤ (m + 1) * (n + 1) := by
  refine then_mem (fun t ht => ?_) (fun t ht => ?_)
  · have h := sP_size b n hb t.2.1 t.2.2.1 t.2.2.2
    exact Nat.le_trans h (Nat.mul_le_mul (by have := ha t ht; omega) (Nat.le_refl _))
  · have h := hb t ht
    have h2 : 1 * (n + 1) ≤ (m + 1) * (n + 1) := Nat.mul_le_mul (by omega) (Nat.le_refl _)
    omega
end Go.Proofs.YtggidhgifaekbaaDoor
/-
  The laws' Great and great of chapter 10, told by what they say. Conditions: the rows lie in memory as told.
-/
namespace Go.Proofs.YtggidhgifaekbaaDoor
open Go.RowKit Go.Maps

set_option maxHeartbeats 2000000 in
set_option maxRecDepth 100000 in
theorem great10_det (l : List Bd) (w : World) (o : Option Addr) (cap : Nat) (hs : BindsAt w o l) (hz : l.length ≤ 9223372036854775807) :
    Calls Tryd.prog 38 #[.slice o l.length cap] w fun e w' => e = .returned (.bool (g10 l)) ∧ Quiet0 w w' := by
  obtain ⟨g, hgd⟩ : ∃ g, g = g10 l := ⟨_, rfl⟩
  have HG := Lib.hid hgd
  rw [← hgd]
  clear hgd
  have HS := Lib.hid hs
  clear hs
  go_enter Tryd.func38, Tryd.ntmps38
  go_wp2_with fail
  go_loopw [2, 3, 4] (fun _ s t wr => ∃ (i : Nat) (n : Int), t = .int .i64 i ∧ s = .int .i64 n ∧ i ≤ l.length ∧ i ≤ 30 ∧ 0 ≤ n ∧ n ≤ 300 * i ∧ (n = sumz (l.take i) ∧ (l.take i).any (fun t => greatF t.2.2.2) = false) ∧ Quiet0 w wr) (fun _ _ t _ => 30 - (intOf t).toNat)
  case atStart => exact ⟨0, 0, rfl, rfl, Nat.zero_le _, by omega, by omega, by omega, ⟨rfl, rfl⟩, Quiet0.refl _⟩
  case round =>
    obtain ⟨i, n, rfl, rfl, hi, hi2, hn0, hn1, hal, hq⟩ := hrel
    have HAL := Lib.hid hal
    have HQ := Lib.hid hq
    clear hal hq
    by_cases hlt : i < l.length
    · have hlt' : (i : Int) < l.length := by omega
      by_cases h30 : i < 30
      · have h30' : (i : Int) < 30 := by omega
        obtain ⟨t, ht⟩ : ∃ t, l[i]? = some t := ⟨_, List.getElem?_eq_getElem hlt⟩
        obtain ⟨b, off, o1, l1, c1, rfl, a0, a1, a2, a3, s1⟩ := HS.out.stay HQ.out i t ht
        have HGR := Lib.hid (great_any t.2.1 t.2.2.1 t.2.2.2 wr o1 l1 c1 s1)
        have HSZ := Lib.hid (fun (W : World) (hq : Quiet0 wr W) (hz : t.2.2.2.size ≤ 1000000) => refSize_any t.2.1 t.2.2.1 t.2.2.2 W o1 l1 c1 (s1.stay hq) hz)
        have HNS : Hid (sumz (l.take (i + 1)) = sumz (l.take i) + (t.2.2.2.size + 1)) := sumz_take l i t ht
        have HNA : Hid ((l.take (i + 1)).any (fun t => greatF t.2.2.2) = ((l.take i).any (fun t => greatF t.2.2.2) || greatF t.2.2.2)) := by
          show _ = _
          rw [List.take_add_one, ht, List.any_append]; simp
        unfold tyv at HGR HSZ
        cases hg : greatF t.2.2.2
        · have hgz := great_size hg
          have HSZ2 := Lib.hid (fun (W : World) (hq : Quiet0 wr W) => HSZ.out W hq (by omega))
          have hs0 : (0 : Int) ≤ ((t.2.2.2.size + 1 : Nat) : Int) := by omega
          have hs1 : ((t.2.2.2.size + 1 : Nat) : Int) ≤ 300 := by omega
          have HNT2 : Hid (n + ((t.2.2.2.size + 1 : Nat) : Int) = sumz (l.take (i + 1)) ∧ (l.take (i + 1)).any (fun t => greatF t.2.2.2) = false) := ⟨by rw [HNS.out, HAL.out.1]; omega, by rw [HNA.out, HAL.out.2, hg]; rfl⟩
          rw [hg] at HGR
          generalize ((t.2.2.2.size + 1 : Nat) : Int) = sz at *
          generalize t.2.1 = k1 at *
          generalize t.2.2.1 = n1 at *
          have hw : IntKind.i64.wrap (n + sz) = n + sz := IntWalk.i64_in _ (by omega)
          clear hg hgz ht HSZ HNS HNA s1
          go_wp2_with fail
          refine HGR.out.mono ?_; rintro e w1 ⟨rfl, hq1⟩
          have HQ1 := Lib.hid hq1
          have b1 := hq1.at a1
          have b2 := hq1.at a2
          have b3 := hq1.at a3
          clear hq1 a0 a1 a2 a3
          go_wp2_with fail
          refine (HSZ2.out _ HQ1.out).mono ?_; rintro e w2 ⟨rfl, hq2⟩
          have HQ2 := Lib.hid ((HQ.out.trans HQ1.out).trans hq2)
          clear hq2 b1 b2 b3
          go_wp2_with fail
          go_roundw
          case rel => exact ⟨i + 1, n + sz, by go_num, rfl, by omega, by omega, by omega, by omega, HNT2.out, HQ2.out⟩
          case measure => simp [intOf]; omega
        · have HT : Hid (g = true) := by
            show _ = _
            have h1 : (l.take 30).any (fun t => greatF t.2.2.2) = true := by
              rw [List.any_eq_true]
              exact ⟨t, List.mem_of_getElem? (by rw [List.getElem?_take_of_lt (by omega)]; exact ht), hg⟩
            rw [HG.out]; unfold g10; rw [h1]; rfl
          rw [hg] at HGR
          generalize t.2.1 = k1 at *
          generalize t.2.2.1 = n1 at *
          clear hg ht HSZ HNS HNA s1
          go_wp2_with fail
          refine HGR.out.mono ?_; rintro e w1 ⟨rfl, hq1⟩
          have HQ1 := Lib.hid (HQ.out.trans hq1)
          clear hq1
          go_wp2_with fail
          go_ret
          exact ⟨by rw [HT.out]; rfl, HQ1.out⟩
      · have h30' : ¬ (i : Int) < 30 := by omega
        have h24 : (24 : Int) < l.length := by omega
        have HT : Hid (g = true) := by show _ = _; rw [HG.out]; unfold g10; simp; omega
        go_wp2_with fail
        go_ret
        exact ⟨by rw [HT.out]; rfl, HQ.out⟩
    · have hlt' : ¬ (i : Int) < l.length := by omega
      have hil : i = l.length := by omega
      have htk : l.take i = l := List.take_of_length_le (by omega)
      rw [htk] at HAL
      clear htk
      by_cases h24 : (24 : Int) < l.length
      · have HT : Hid (g = true) := by show _ = _; rw [HG.out]; unfold g10; simp; omega
        go_wp2_with fail
        go_ret
        exact ⟨by rw [HT.out]; rfl, HQ.out⟩
      · have HT : Hid (g = decide (400 < n)) := by
          show _ = _
          rw [HG.out, HAL.out.1]; unfold g10
          rw [List.take_of_length_le (by omega), HAL.out.2, show decide (24 < l.length) = false from by simp; omega, Bool.false_or, Bool.false_or, Bool.eq_iff_iff, decide_eq_true_eq, decide_eq_true_eq]
          omega
        go_wp2_with fail
        go_ret
        exact ⟨by rw [HT.out]; simp, HQ.out⟩
set_option maxHeartbeats 2000000 in
set_option maxRecDepth 100000 in
theorem lgreat_any (l : List Bd) (w : World) (o : Option Addr) (cap : Nat) (hs : BindsAt w o l) (hz : l.length ≤ 9223372036854775807) :
    Calls Tryd.prog 54 #[.slice o l.length cap] w fun e w' => e = .returned (.bool (gr10 l)) ∧ Quiet0 w w' := by
  have HS := Lib.hid hs
  have HG := Lib.hid (fun (W : World) (hq : Quiet0 w W) => great10_det l W o cap (hs.stay hq) hz)
  obtain ⟨g, hgd⟩ : ∃ g, g = gr10 l := ⟨_, rfl⟩
  have HGD := Lib.hid hgd
  rw [← hgd]
  have hfew : g10 l = false → l.length ≤ 24 ∧ ∀ t ∈ l, t.2.2.2.size ≤ 300 := g10_few
  have HF := Lib.hid hfew
  have HGT : Hid (gr10 l = (g10 l || decide (60 < sumz l))) := rfl
  clear hs hgd hfew
  cases hg : g10 l
  · rw [hg] at HG HGT
    have hle := (HF.out hg).1
    have HSZ := Lib.hid (HF.out hg).2
    clear HF hg
    go_enter Tryd.func54, Tryd.ntmps54
    go_wp2_with fail
    go_loopw [3, 4] (fun s t wr => ∃ (i : Nat) (n : Int), t = .int .i64 i ∧ s = .int .i64 n ∧ i ≤ l.length ∧ 0 ≤ n ∧ n ≤ 301 * i ∧ n = sumz (l.take i) ∧ Quiet0 w wr) (fun _ t _ => l.length - (intOf t).toNat)
    case atStart => exact ⟨0, 0, rfl, rfl, Nat.zero_le _, by omega, by omega, rfl, Quiet0.refl _⟩
    case round =>
      obtain ⟨i, n, rfl, rfl, hi, hn0, hn1, hn, hq⟩ := hrel
      have HN := Lib.hid hn
      have HQ := Lib.hid hq
      clear hn hq
      by_cases hlt : i < l.length
      · have hlt' : (i : Int) < l.length := by omega
        obtain ⟨t, ht⟩ : ∃ t, l[i]? = some t := ⟨_, List.getElem?_eq_getElem hlt⟩
        have hsz := HSZ.out t (List.mem_of_getElem? ht)
        obtain ⟨b, off, o1, l1, c1, rfl, a0, a1, a2, a3, s1⟩ := HS.out.stay HQ.out i t ht
        have HSQ := Lib.hid (fun (W : World) (hq : Quiet0 wr W) => refSize_any t.2.1 t.2.2.1 t.2.2.2 W o1 l1 c1 (s1.stay hq) (by omega))
        have HNS : Hid (n + ((t.2.2.2.size + 1 : Nat) : Int) = sumz (l.take (i + 1))) := by show _ = _; rw [sumz_take l i t ht, HN.out]; omega
        have hs0 : (0 : Int) ≤ ((t.2.2.2.size + 1 : Nat) : Int) := by omega
        have hs1 : ((t.2.2.2.size + 1 : Nat) : Int) ≤ 301 := by omega
        unfold tyv at HSQ
        generalize ((t.2.2.2.size + 1 : Nat) : Int) = sz at *
        generalize t.2.1 = k1 at *
        generalize t.2.2.1 = n1 at *
        have hw : IntKind.i64.wrap (n + sz) = n + sz := IntWalk.i64_in _ (by omega)
        clear ht s1 hsz
        go_wp2_with fail
        refine (HG.out _ HQ.out).mono ?_; rintro e w1 ⟨rfl, hq1⟩
        have HQ1 := Lib.hid hq1
        have b1 := hq1.at a1
        have b2 := hq1.at a2
        have b3 := hq1.at a3
        clear hq1 a0 a1 a2 a3
        go_wp2_with fail
        refine (HSQ.out _ HQ1.out).mono ?_; rintro e w2 ⟨rfl, hq2⟩
        have HQ2 := Lib.hid ((HQ.out.trans HQ1.out).trans hq2)
        clear hq2 b1 b2 b3
        go_wp2_with fail
        go_roundw
        case rel => exact ⟨i + 1, n + sz, by go_num, rfl, by omega, by omega, by omega, HNS.out, HQ2.out⟩
        case measure => simp [intOf]; omega
      · have hlt' : ¬ (i : Int) < l.length := by omega
        have htk : l.take i = l := List.take_of_length_le (by omega)
        rw [htk] at HN
        clear htk
        have HT : Hid (g = decide (60 < n)) := by
          show _ = _
          rw [HGD.out, HGT.out, HN.out, Bool.false_or, Bool.eq_iff_iff, decide_eq_true_eq, decide_eq_true_eq]; omega
        go_wp2_with fail
        refine (HG.out _ HQ.out).mono ?_; rintro e w1 ⟨rfl, hq1⟩
        have HQ1 := Lib.hid (HQ.out.trans hq1)
        clear hq1
        go_wp2_with fail
        go_ret
        exact ⟨by rw [HT.out]; simp, HQ1.out⟩
  · rw [hg] at HG HGT
    have HT : Hid (g = true) := by show _ = _; rw [HGD.out, HGT.out]; rfl
    clear HF hg
    go_enter Tryd.func54, Tryd.ntmps54
    go_wp2_with fail
    go_loopw [3, 4] (fun s t wr => t = .int .i64 0 ∧ s = .int .i64 0 ∧ Quiet0 w wr) (fun _ t _ => 0)
    case atStart => exact ⟨rfl, rfl, Quiet0.refl _⟩
    case round =>
      obtain ⟨rfl, rfl, hq⟩ := hrel
      have HQ := Lib.hid hq
      clear hq
      by_cases hlt : 0 < l.length
      · have hlt' : (0 : Int) < l.length := by omega
        go_wp2_with fail
        refine (HG.out _ HQ.out).mono ?_; rintro e w1 ⟨rfl, hq1⟩
        have HQ1 := Lib.hid (HQ.out.trans hq1)
        clear hq1
        go_wp2_with fail
        refine (HG.out _ HQ1.out).mono ?_; rintro e w2 ⟨rfl, hq2⟩
        have HQ2 := Lib.hid (HQ1.out.trans hq2)
        clear hq2
        go_wp2_with fail
        go_ret
        exact ⟨by rw [HT.out]; rfl, HQ2.out⟩
      · have hlt' : ¬ (0 : Int) < l.length := by omega
        go_wp2_with fail
        refine (HG.out _ HQ.out).mono ?_; rintro e w1 ⟨rfl, hq1⟩
        have HQ1 := Lib.hid (HQ.out.trans hq1)
        clear hq1
        go_wp2_with fail
        go_ret
        exact ⟨by rw [HT.out]; rfl, HQ1.out⟩
end Go.Proofs.YtggidhgifaekbaaDoor
/-
  The program's Solved. Conditions: the binds lie in memory as told; their numbers are in range; they are few and small.
-/
namespace Go.Proofs.YtggidhgifaekbaaDoor
open Go.RowKit Go.Maps

theorem eg_sol11 : ∀ args w, (callFunc 101 args).run Tryd.prog w = .ok (.enter 101 args) w := enters_of Tryd.func101 (by kernel_rfl) rfl
theorem eg_sol1 : ∀ args w, (callFunc 100 args).run Tryd.prog w = .ok (.enter 100 args) w := enters_of Tryd.func100 (by kernel_rfl) rfl
set_option maxHeartbeats 2000000 in
set_option maxRecDepth 100000 in
theorem sol11_any (l : List Bd) (w0 : World) (cs b m : Nat) (q : Int → Option Value) (h1 : Box1 w0 cs (.map (some b)) 94) (h2 : MapT w0 b m q) (h3 : TabAt w0 q (findB l)) (L : List Int) (hL : ∀ v ∈ L, wfI v) :
    PredI 101 #[.pointer (some ⟨cs, 0, none⟩)] w0 L (hasB l) := by
  intro v hv W hq
  have HC := Lib.hid ((h1.fr hq (fun h => h)))
  have c0 := cell_of_one HC.out
  have HM := Lib.hid (h2.stay hq)
  have HV := Lib.hid (hL v hv)
  have ht := h3 v
  clear h1 h2 h3 hv hL hq
  cases hf : findB l v with
  | none =>
    rw [hf] at ht
    have hh : hasB l v = false := findB_none.1 hf
    rw [hh]
    have hqn : q v = none := ht
    clear ht hf hh
    go_enter Tryd.func101, Tryd.ntmps101
    go_wp2_with (at_lookup; go_must (refine lookT_none _ rfl _ _ rfl rfl HM.out v HV.out hqn rfl ?_))
    go_wp2_with fail
    go_ret
    exact ⟨rfl, Quiet0.alloc _ _⟩
  | some t =>
    rw [hf] at ht
    have hh : hasB l v = true := by
      cases hh : hasB l v
      · rw [findB_none.2 hh] at hf; cases hf
      · rfl
    rw [hh]
    obtain ⟨uo, ul, uc, hqn, _⟩ := ht
    generalize t.2.1 = uk at *
    generalize t.2.2.1 = un at *
    unfold tyv at hqn
    clear hf hh
    go_enter Tryd.func101, Tryd.ntmps101
    go_wp2_with (at_lookup; go_must (refine lookT_some _ rfl _ _ rfl rfl HM.out v HV.out hqn rfl ?_))
    go_wp2_with fail
    go_ret
    exact ⟨rfl, Quiet0.alloc _ _⟩
set_option maxHeartbeats 2000000 in
set_option maxRecDepth 100000 in
theorem sol1_any (l : List Bd) (w0 : World) (cs b m : Nat) (q : Int → Option Value) (h1 : Box1 w0 cs (.map (some b)) 94) (h2 : MapT w0 b m q) (h3 : TabAt w0 q (findB l)) (F : List Bd) (hF : ∀ t ∈ F, t.2.2.2.size ≤ 1000 ∧ wfI t.2.2.1 ∧ wfF t.2.2.2) :
    PredB 100 #[.pointer (some ⟨cs, 0, none⟩)] w0 F (solvedP l) := by
  intro t ht W o len cap hq hs
  show Calls _ _ _ W fun e W' => e = .returned (.bool (solvedP l t)) ∧ Quiet0 W W'
  obtain ⟨hz, hn, hw⟩ := hF t ht
  unfold solvedP bdv
  obtain ⟨L, hL⟩ : ∃ L, L = Fo.vars [] (.cons t.2.1 t.2.2.1 t.2.2.2 .nil) := ⟨_, rfl⟩
  have hll : L.length ≤ 2000 := by rw [hL]; have := vars_len (.cons t.2.1 t.2.2.1 t.2.2.2 .nil) []; simp only [Fo.size, List.length_nil] at this; omega
  have HWL : Hid (∀ v ∈ L, wfI v) := by intro v; rw [hL]; exact vars_all (G := wfI) (.cons t.2.1 t.2.2.1 t.2.2.2 .nil) [] (fun v h => by cases h) ⟨hn, hw, trivial⟩ v
  have HV1 : Hid (∀ W' b, Quiet0 W W' → W'.heap[b]? = some (.cells #[.int .i64 t.2.1, .int .i64 t.2.2.1, .slice o len cap] 24 (0, 0)) → Calls Tryd.prog 36 #[.slice (some ⟨b, 0, none⟩) 1 1] W' fun e w' => ∃ a c, e = .returned (.slice a L.length c) ∧ IntsAt w' a L ∧ Quiet0 W' w') := by
    intro W' b hq' hb
    refine (vars_any (.cons t.2.1 t.2.2.1 t.2.2.2 .nil) _ _ 1 1 (slc1 hb (hs.stay hq')) ⟨hn, hw, trivial⟩ (by simp only [Fo.size]; omega)).mono ?_
    rintro e w' ⟨vo, rfl, hr, h2⟩
    obtain ⟨a, c, rfl, h1⟩ := ownsInts_v hr.1
    rw [← hL] at h1
    rw [← hL]
    exact ⟨a, c, rfl, h1, h2⟩
  rw [← hL]
  have HCF := Lib.hid (fun (W' : World) (h : Quiet0 W W') a c (hi : IntsAt W' a L) => containsI_any 101 #[.pointer (some ⟨cs, 0, none⟩)] (hasB l) eg_sol11 L a c W' hi (sol11_any l W' cs b m q ((h1.fr hq (fun h => h)).fr h (fun h => h)) (h2.stay (hq.trans h)) (h3.stay (hq.trans h)) L HWL.out) (by omega))
  generalize L.any (hasB l) = r at *
  generalize t.1 = v at *
  generalize t.2.1 = k at *
  generalize t.2.2.1 = n at *
  clear hs ht hq h1 h2 h3 hF hz hn hw hL
  go_enter Tryd.func100, Tryd.ntmps100
  obtain ⟨W0, hW0⟩ : ∃ W0, W0 = W.alloc (.cells #[.int .i64 v, .int .i64 k, .int .i64 n, .slice o len cap] 91) := ⟨_, rfl⟩
  have HB : Hid (W0.heap[W.heap.size]? = some (.cells #[.int .i64 v, .int .i64 k, .int .i64 n, .slice o len cap] 91 (0, 0))) := by rw [hW0]; exact heap_alloc_new _ _
  have HQ0 : Hid (Quiet0 W W0) := by rw [hW0]; exact Quiet0.alloc _ _
  have a0 : W0.cell? ⟨W.heap.size, 1, none⟩ = some (.int .i64 k) := by rw [cell_of_row _ _ _ _ _ (0, 0) HB.out]; rfl
  have a1 : W0.cell? ⟨W.heap.size, 2, none⟩ = some (.int .i64 n) := by rw [cell_of_row _ _ _ _ _ (0, 0) HB.out]; rfl
  have a2 : W0.cell? ⟨W.heap.size, 3, none⟩ = some (.slice o len cap) := by rw [cell_of_row _ _ _ _ _ (0, 0) HB.out]; rfl
  generalize hB : W.heap.size = B at *
  go_upto_region 1 with fail
  rw [← hW0]
  clear hW0 hB
  go_wp2_with fail
  refine (HV1.out _ _ (HQ0.out.trans (Quiet0.alloc _ _)) (heap_alloc_new _ _)).mono ?_; rintro e w1 ⟨va, vc, rfl, hi, hq1⟩
  have HQ1 := Lib.hid ((HQ0.out.trans (Quiet0.alloc _ _)).trans hq1)
  have HI := Lib.hid hi
  clear hq1 hi a0 a1 a2
  go_wp2_with fail
  refine (HCF.out _ HQ1.out _ _ HI.out).mono ?_; rintro e w2 ⟨rfl, hq2⟩
  go_wp2_with fail
  go_ret
  exact ⟨rfl, HQ1.out.trans hq2⟩
set_option maxHeartbeats 2000000 in
set_option maxRecDepth 100000 in
theorem suSolved_any (l : List Bd) (w : World) (o : Option Addr) (cap : Nat) (hs : BindsAt w o l) (hw : ∀ t ∈ l, wfI t.1) (hz : l.length ≤ 100000) (hl : ∀ t ∈ l, t.2.2.2.size ≤ 1000 ∧ wfI t.2.2.1 ∧ wfF t.2.2.2) :
    Calls Tryd.prog 58 #[.slice o l.length cap] w fun e w' => e = .returned (.bool (solvedB l)) ∧ Quiet0 w w' := by
  have HT := Lib.hid (table_any l w o cap hs hw hz)
  have HC := Lib.hid (fun (W : World) (h : Quiet0 w W) => count_any l W o cap (hs.stay h) hw hz)
  have HF : Hid (∀ t ∈ firstB l, t.2.2.2.size ≤ 1000 ∧ wfI t.2.2.1 ∧ wfF t.2.2.2) := fun t ht => by
    rcases first_sub l [] t ht with h | h
    · simp at h
    · exact hl t h
  have hfz : (firstB l).length ≤ 100000 := by have := first_len l []; simp at this; unfold firstB; omega
  unfold solvedB
  have HCF := Lib.hid (fun (W W' : World) (cs b m : Nat) (q : Int → Option Value) (h1 : Box1 W cs (.map (some b)) 94) (h2 : MapT W b m q) (h3 : TabAt W q (findB l)) (hq : Quiet0 W W') (a : Option Addr) (c : Nat) (hb : BindsAt W' a (firstB l)) =>
    containsB_any 100 #[.pointer (some ⟨cs, 0, none⟩)] (solvedP l) eg_sol1 (firstB l) a c W' hb (sol1_any l W' cs b m q (h1.fr hq (fun h => h)) (h2.stay hq) (h3.stay hq) (firstB l) HF.out) (by omega))
  generalize (firstB l).any (solvedP l) = r at *
  generalize firstB l = F at *
  clear hs hw hl
  go_enter Tryd.func58, Tryd.ntmps58
  go_wp2_with fail
  refine HT.out.mono ?_; rintro e w1 ⟨b, m, q, rfl, hb, hm, ht, hq⟩
  have HM := Lib.hid (hm.stay (Quiet0.alloc w1 (.cells #[.map (some b)] 94)))
  have HTA := Lib.hid (ht.stay (Quiet0.alloc w1 (.cells #[.map (some b)] 94)))
  have HB := Lib.hid (Box1.new w1 (.map (some b)) 94)
  have HQ := Lib.hid (hq.trans (Quiet0.alloc w1 (.cells #[.map (some b)] 94)))
  clear hb hm ht hq
  go_wp2_with fail
  refine (HC.out _ HQ.out).mono ?_; rintro e w2 ⟨a, c, rfl, hbs, hq2⟩
  have HQ2 := Lib.hid hq2
  have HBS := Lib.hid hbs
  clear hq2 hbs
  go_wp2_with fail
  refine (HCF.out _ _ _ b m q HB.out HM.out HTA.out HQ2.out a c HBS.out).mono ?_; rintro e w3 ⟨rfl, hq3⟩
  go_wp2_with fail
  go_ret
  exact ⟨rfl, (HQ.out.trans HQ2.out).trans hq3⟩
end Go.Proofs.YtggidhgifaekbaaDoor
