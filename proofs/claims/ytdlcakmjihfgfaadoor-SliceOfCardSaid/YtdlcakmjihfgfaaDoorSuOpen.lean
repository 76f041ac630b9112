/-
  Rows of binds and of equations that came in as arguments. No condition.
-/
import Derived.Test.YtdlcakmjihfgfaaDoorTyOpen
import Derived.Test.YtdlcakmjihfgfaaDoorSuEq
namespace Go.Proofs.YtdlcakmjihfgfaaDoor
open Go.ChangeShapes Go.WideShapes Go.ChangeAt Go.RowKit

theorem list_of {α : Type} {P : Nat → α → Prop} : ∀ len : Nat, (∀ i, i < len → ∃ t, P i t) → ∃ l : List α, l.length = len ∧ ∀ i t, l[i]? = some t → P i t
  | 0, _ => ⟨[], rfl, fun i t h => by simp at h⟩
  | len + 1, h => by
    obtain ⟨l, hl, hp⟩ := list_of len (fun i hi => h i (by omega))
    obtain ⟨t, ht⟩ := h len (by omega)
    refine ⟨l ++ [t], by simp [hl], fun i u hu => ?_⟩
    by_cases hi : i < len
    · rw [List.getElem?_append_left (by omega)] at hu
      exact hp i u hu
    · have h2 : i < (l ++ [t]).length := (List.getElem?_eq_some_iff.1 hu).1
      have h3 : i = len := by simp [hl] at h2; omega
      subst h3
      rw [List.getElem?_append_right (by omega)] at hu
      simp [hl] at hu
      subst hu
      exact ht
section
variable {H : Type} {enc : TypeId × Value → H} {P : Program} {w : World} {base : Nat} {spare : Nat → Bool} {held : Bool}
theorem fields2 {te : TypeId} {f0 f1 : Field} {n0 n1 : Nat} (he : P.underlying te = some (.struct #[f0, f1])) (ce : P.cellsOf te = n0 + n1) (o0 : f0.offset = 0) (o1 : f1.offset = n0) (c0 : P.cellsOf f0.type = n0) (c1 : P.cellsOf f1.type = n1)
    {fuel : Nat} {cs : List Value} {x : DataW H × List MemPlace} (h : DataW.trod enc P w base spare held fuel te cs = some x) : ∃ (cs0 cs1 : List Value) (x0 x1 : DataW H × List MemPlace) (n : Nat), cs = cs0 ++ cs1 ∧ DataW.trod enc P w base spare held n f0.type cs0 = some x0 ∧ DataW.trod enc P w base spare held n f1.type cs1 = some x1 := by
  obtain ⟨xs, n', hn', _, hcl, hxl, hfx⟩ := DataW.trod_struct he h
  rw [ce] at hcl
  have hxl2 : xs.length = 2 := by simpa using hxl
  have s0 := hfx 0 f0 rfl
  have s1 := hfx 1 f1 rfl
  rw [c0, o0, show xs[0]? = some (xs[0]'(by omega)) from by simp [hxl2]] at s0
  rw [c1, o1, show xs[1]? = some (xs[1]'(by omega)) from by simp [hxl2]] at s1
  rw [List.drop_zero] at s0
  rw [List.take_of_length_le (by simp; omega)] at s1
  exact ⟨_, _, _, _, n', (List.take_append_drop n0 cs).symm, s0, s1⟩
theorem fields3 {te : TypeId} {f0 f1 f2 : Field} {n0 n1 n2 : Nat} (he : P.underlying te = some (.struct #[f0, f1, f2])) (ce : P.cellsOf te = n0 + n1 + n2) (o0 : f0.offset = 0) (o1 : f1.offset = n0) (o2 : f2.offset = n0 + n1) (c0 : P.cellsOf f0.type = n0) (c1 : P.cellsOf f1.type = n1) (c2 : P.cellsOf f2.type = n2)
    {fuel : Nat} {cs : List Value} {x : DataW H × List MemPlace} (h : DataW.trod enc P w base spare held fuel te cs = some x) : ∃ (cs0 cs1 cs2 : List Value) (x0 x1 x2 : DataW H × List MemPlace) (n : Nat), cs = cs0 ++ (cs1 ++ cs2) ∧ DataW.trod enc P w base spare held n f0.type cs0 = some x0 ∧ DataW.trod enc P w base spare held n f1.type cs1 = some x1 ∧ DataW.trod enc P w base spare held n f2.type cs2 = some x2 := by
  obtain ⟨xs, n', hn', _, hcl, hxl, hfx⟩ := DataW.trod_struct he h
  rw [ce] at hcl
  have hxl2 : xs.length = 3 := by simpa using hxl
  have s0 := hfx 0 f0 rfl
  have s1 := hfx 1 f1 rfl
  have s2 := hfx 2 f2 rfl
  rw [c0, o0, show xs[0]? = some (xs[0]'(by omega)) from by simp [hxl2]] at s0
  rw [c1, o1, show xs[1]? = some (xs[1]'(by omega)) from by simp [hxl2]] at s1
  rw [c2, o2, show xs[2]? = some (xs[2]'(by omega)) from by simp [hxl2]] at s2
  rw [List.drop_zero] at s0
  rw [List.take_of_length_le (by simp; omega)] at s2
  refine ⟨_, _, _, _, _, _, n', ?_, s0, s1, s2⟩
  rw [← List.drop_drop, List.take_append_drop, List.take_append_drop]
end
section
variable {H : Type} {enc : TypeId × Value → H} {w : World} {base : Nat} {spare : Nat → Bool} {held : Bool}
theorem open_typ {fuel : Nat} {cs : List Value} {x : DataW H × List MemPlace} (h : DataW.trod enc Tryd.prog w base spare held fuel 63 cs = some x) : ∃ k n o len cap f, cs = [.int .i64 k, .int .i64 n, .slice o len cap] ∧ Slc w o len f ∧ wfI n ∧ wfF f :=
  open_agg Tryd.underlying63 (by kernel_rfl) rfl rfl rfl (by kernel_rfl) (by kernel_rfl) (by kernel_rfl) Tryd.underlying3 Tryd.underlying3 Tryd.underlying61 h
theorem open_span {fuel : Nat} {cs : List Value} {x : DataW H × List MemPlace} (h : DataW.trod enc Tryd.prog w base spare held fuel 41 cs = some x) : ∃ k n, cs = [.int .i64 k, .int .i64 n] ∧ wfI k ∧ wfI n := by
  obtain ⟨cs0, cs1, x0, x1, n', rfl, s0, s1⟩ := fields2 (n0 := 1) (n1 := 1) Tryd.underlying41 (by kernel_rfl) rfl rfl (by kernel_rfl) (by kernel_rfl) h
  obtain ⟨z0, rfl, _, hw0⟩ := DataW.trod_int Tryd.underlying3 s0
  obtain ⟨z1, rfl, _, hw1⟩ := DataW.trod_int Tryd.underlying3 s1
  exact ⟨z0, z1, rfl, hw0, hw1⟩
theorem open_eq {fuel : Nat} {cs : List Value} {x : DataW H × List MemPlace} (h : DataW.trod enc Tryd.prog w base spare held fuel 65 cs = some x) : ∃ k1 n1 o1 l1 c1 p1 k2 n2 o2 l2 c2 p2 a b,
    cs = [.int .i64 k1, .int .i64 n1, .slice o1 l1 c1, .int .i64 k2, .int .i64 n2, .slice o2 l2 c2, .int .i64 a, .int .i64 b] ∧ (Slc w o1 l1 p1 ∧ wfI n1 ∧ wfF p1) ∧ (Slc w o2 l2 p2 ∧ wfI n2 ∧ wfF p2) ∧ wfI a ∧ wfI b := by
  obtain ⟨cs0, cs1, cs2, x0, x1, x2, n', rfl, s0, s1, s2⟩ := fields3 (n0 := 3) (n1 := 3) (n2 := 2) Tryd.underlying65 (by kernel_rfl) rfl rfl rfl (by kernel_rfl) (by kernel_rfl) (by kernel_rfl) h
  obtain ⟨k1, n1, o1, l1, c1, p1, rfl, hs1, hw1, hwf1⟩ := open_typ s0
  obtain ⟨k2, n2, o2, l2, c2, p2, rfl, hs2, hw2, hwf2⟩ := open_typ s1
  obtain ⟨a, b, rfl, ha, hb⟩ := open_span s2
  exact ⟨k1, n1, o1, l1, c1, p1, k2, n2, o2, l2, c2, p2, a, b, rfl, ⟨hs1, hw1, hwf1⟩, ⟨hs2, hw2, hwf2⟩, ha, hb⟩
/-- an argument that is a row of equations -/
theorem open_eqs {ts : TypeId} {v : Value} {d : DataW H} {p : List MemPlace} (ht : Tryd.prog.underlying ts = some (.slice 65)) (hv : ∃ a len cap, v = .slice a len cap) (h : DataW.Trod enc Tryd.prog w base spare held ts v d p) :
    ∃ o c l, v = .slice o (List.length l) c ∧ EqsAt w o l ∧ (∀ t ∈ l, (wfI t.1.2.1 ∧ wfF t.1.2.2) ∧ wfI t.2.1.2.1 ∧ wfF t.2.1.2.2) ∧ l.length ≤ 9223372036854775807 ∧ l.length ≤ c := by
  obtain ⟨a0, l0, cc0, rfl⟩ := hv
  obtain ⟨fuel, hf⟩ := h
  rcases DataW.trod_slice ht hf with ⟨he, _⟩ | ⟨a, len, cap, elems, rest, n, hfu, he, _, _, hl, hm, hlen, hel, _⟩
  · simp [Value.cells] at he
    obtain ⟨rfl, rfl, rfl⟩ := he
    exact ⟨none, 0, [], rfl, fun i t h => by simp at h, fun t h => by simp at h, by simp, by simp⟩
  · simp [Value.cells] at he
    obtain ⟨rfl, rfl, rfl⟩ := he
    have hmx : l0 ≤ 9223372036854775807 := by unfold maxLen at *; omega
    have one : ∀ i, i < l0 → ∃ t : Eqn, (∃ o1 l1 c1 o2 l2 c2, w.cell? (a.add (i * 8)) = some (.int .i64 t.1.1) ∧ w.cell? (a.add (i * 8 + 1)) = some (.int .i64 t.1.2.1) ∧ w.cell? (a.add (i * 8 + 2)) = some (.slice o1 l1 c1) ∧
        w.cell? (a.add (i * 8 + 3)) = some (.int .i64 t.2.1.1) ∧ w.cell? (a.add (i * 8 + 4)) = some (.int .i64 t.2.1.2.1) ∧ w.cell? (a.add (i * 8 + 5)) = some (.slice o2 l2 c2) ∧
        w.cell? (a.add (i * 8 + 6)) = some (.int .i64 t.2.2.1) ∧ w.cell? (a.add (i * 8 + 7)) = some (.int .i64 t.2.2.2) ∧ Slc w o1 l1 t.1.2.2 ∧ Slc w o2 l2 t.2.1.2.2) ∧ (wfI t.1.2.1 ∧ wfF t.1.2.2) ∧ wfI t.2.1.2.1 ∧ wfF t.2.1.2.2 := by
      intro i hi
      have h1 := hel i hi
      rw [List.getElem?_eq_getElem (by omega)] at h1
      obtain ⟨cs', h2, h3⟩ := Option.bind_eq_some_iff.1 h1
      rw [show Tryd.prog.cellsOf 65 = 8 from by kernel_rfl] at h2
      obtain ⟨_, hcl, hcell⟩ := World.cells?_some h2
      obtain ⟨k1, n1, o1, l1, c1, p1, k2, n2, o2, l2, c2, p2, sa, sb, rfl, ⟨hs1, hw1, hwf1⟩, ⟨hs2, hw2, hwf2⟩, _, _⟩ := open_eq h3
      have e0 := hcell 0 (by omega)
      have e1 := hcell 1 (by omega)
      have e2 := hcell 2 (by omega)
      have e3 := hcell 3 (by omega)
      have e4 := hcell 4 (by omega)
      have e5 := hcell 5 (by omega)
      have e6 := hcell 6 (by omega)
      have e7 := hcell 7 (by omega)
      simp [Deep.add_add] at e0 e1 e2 e3 e4 e5 e6 e7
      exact ⟨((k1, n1, p1), (k2, n2, p2), sa, sb), ⟨o1, l1, c1, o2, l2, c2, e0, e1, e2, e3, e4, e5, e6, e7, hs1, hs2⟩, ⟨hw1, hwf1⟩, hw2, hwf2⟩
    obtain ⟨l, hll, hp⟩ := list_of l0 one
    subst hll
    refine ⟨some a, _, l, rfl, fun i t ht => ?_, fun t ht => ?_, hmx, hl⟩
    · obtain ⟨⟨o1, l1, c1, o2, l2, c2, e0, e1, e2, e3, e4, e5, e6, e7, hs1, hs2⟩, _⟩ := hp i t ht
      obtain ⟨t0, ht0⟩ : ∃ t0, l[0]? = some t0 := ⟨_, List.getElem?_eq_getElem (by have := (List.getElem?_eq_some_iff.1 ht).1; omega)⟩
      obtain ⟨⟨_, _, _, _, _, _, f0, _⟩, _⟩ := hp 0 t0 ht0
      rw [Nat.zero_mul] at f0
      obtain ⟨b, off, rfl⟩ := spot_none f0
      exact ⟨b, off, o1, l1, c1, o2, l2, c2, rfl, by simpa [Addr.add_lit] using e0, by simpa [Addr.add_lit, Nat.add_assoc] using e1, by simpa [Addr.add_lit, Nat.add_assoc] using e2, by simpa [Addr.add_lit, Nat.add_assoc] using e3, by simpa [Addr.add_lit, Nat.add_assoc] using e4, by simpa [Addr.add_lit, Nat.add_assoc] using e5, by simpa [Addr.add_lit, Nat.add_assoc] using e6, by simpa [Addr.add_lit, Nat.add_assoc] using e7, hs1, hs2⟩
    · obtain ⟨i, hi⟩ := List.getElem?_of_mem ht
      exact (hp i t hi).2
/-- an argument that is a row of numbers -/
theorem open_intv {ts : TypeId} {v : Value} {d : DataW H} {p : List MemPlace} (ht : Tryd.prog.underlying ts = some (.slice 3)) (hv : ∃ a len cap, v = .slice a len cap) (h : DataW.Trod enc Tryd.prog w base spare held ts v d p) :
    ∃ o c l, v = .slice o (List.length l) c ∧ IntsAt w o l ∧ (∀ x ∈ l, wfI x) ∧ l.length ≤ 9223372036854775807 := by
  obtain ⟨a0, l0, cc0, rfl⟩ := hv
  obtain ⟨fuel, hf⟩ := h
  rcases open_ints ht Tryd.underlying3 (by kernel_rfl) hf with ⟨he, _⟩ | ⟨a, len, cap, zs, he, _, hl, hm, hzl, _, hc, hw⟩
  · simp [Value.cells] at he
    obtain ⟨rfl, rfl, rfl⟩ := he
    exact ⟨none, 0, [], rfl, fun i t h => by simp at h, fun t h => by simp at h, by simp⟩
  · simp [Value.cells] at he
    obtain ⟨rfl, rfl, rfl⟩ := he
    have hle : l0 ≤ zs.length := by rw [hzl]; split <;> omega
    have htl : (zs.take l0).length = l0 := by rw [List.length_take]; omega
    have hsp : ∀ i, i < zs.length → ∃ b off, a = ⟨b, off, none⟩ := fun i hi => by
      have := hc 0 (by omega)
      exact spot_none this
    refine ⟨some a, cc0, zs.take l0, by rw [htl], fun i x hx => ?_, fun x hx => hw x (List.mem_of_mem_take hx), by rw [htl]; unfold maxLen at hm; omega⟩
    have hi : i < l0 := by have := (List.getElem?_eq_some_iff.1 hx).1; omega
    obtain ⟨b, off, rfl⟩ := hsp i (by omega)
    have h1 := hc i (by omega)
    rw [List.getElem?_take_of_lt hi] at hx
    rw [List.getD_eq_getElem?_getD, hx] at h1
    exact ⟨b, off, rfl, by simpa [Addr.add_lit] using h1⟩
end
end Go.Proofs.YtdlcakmjihfgfaaDoor
