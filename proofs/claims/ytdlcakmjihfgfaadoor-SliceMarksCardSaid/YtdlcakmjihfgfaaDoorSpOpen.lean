/-
  Rows of spans that came in as arguments; a row of cells known whole that holds spans. No condition.
-/
import Derived.Test.YtdlcakmjihfgfaaDoorLaw
import Derived.Test.YtdlcakmjihfgfaaDoorSpMem
import Derived.Deep.Slices
namespace Go.Proofs.YtdlcakmjihfgfaaDoor
open Go.ChangeShapes Go.WideShapes Go.ChangeAt Go.RowKit SpanPlain

theorem spSpot {w : World} {a : Addr} {v : Value} (h : w.cell? (a.add 0) = some v) : ∃ b off, a = ⟨b, off, none⟩ := by
  obtain ⟨b, off, s⟩ := a
  cases s with
  | none => exact ⟨b, off, rfl⟩
  | some s =>
    unfold World.cell? Addr.add at h
    simp only [if_true] at h
    split at h <;> simp_all
theorem spList {α : Type} {P : Nat → α → Prop} : ∀ len : Nat, (∀ i, i < len → ∃ t, P i t) → ∃ l : List α, l.length = len ∧ ∀ i t, l[i]? = some t → P i t
  | 0, _ => ⟨[], rfl, fun i t h => by simp at h⟩
  | len + 1, h => by
    obtain ⟨l, hl, hp⟩ := spList len (fun i hi => h i (by omega))
    obtain ⟨t, ht⟩ := h len (by omega)
    refine ⟨l ++ [t], by simp [hl], fun i u hu => ?_⟩
    by_cases hi : i < len
    · rw [List.getElem?_append_left (by omega)] at hu
      exact hp i u hu
    · have h2 : i < (l ++ [t]).length := (List.getElem?_eq_some_iff.1 hu).1
      have h3 : i = len := by simp [hl] at h2; omega
      subst h3
      rw [List.getElem?_append_right (by omega)] at hu
      simp [hl] at hu
      subst hu
      exact ht
section
variable {H : Type} {enc : TypeId × Value → H} {P : Program} {w : World} {base : Nat} {spare : Nat → Bool} {held : Bool}
theorem spFields {te : TypeId} {f0 f1 : Field} {n0 n1 : Nat} (he : P.underlying te = some (.struct #[f0, f1])) (ce : P.cellsOf te = n0 + n1) (o0 : f0.offset = 0) (o1 : f1.offset = n0) (c0 : P.cellsOf f0.type = n0) (c1 : P.cellsOf f1.type = n1)
    {fuel : Nat} {cs : List Value} {x : DataW H × List MemPlace} (h : DataW.trod enc P w base spare held fuel te cs = some x) : ∃ (cs0 cs1 : List Value) (x0 x1 : DataW H × List MemPlace) (n : Nat), cs = cs0 ++ cs1 ∧ DataW.trod enc P w base spare held n f0.type cs0 = some x0 ∧ DataW.trod enc P w base spare held n f1.type cs1 = some x1 := by
  obtain ⟨xs, n', hn', _, hcl, hxl, hfx⟩ := DataW.trod_struct he h
  rw [ce] at hcl
  have hxl2 : xs.length = 2 := by simpa using hxl
  have s0 := hfx 0 f0 rfl
  have s1 := hfx 1 f1 rfl
  rw [c0, o0, show xs[0]? = some (xs[0]'(by omega)) from by simp [hxl2]] at s0
  rw [c1, o1, show xs[1]? = some (xs[1]'(by omega)) from by simp [hxl2]] at s1
  rw [List.drop_zero] at s0
  rw [List.take_of_length_le (by simp; omega)] at s1
  exact ⟨_, _, _, _, n', (List.take_append_drop n0 cs).symm, s0, s1⟩
end
def spI (n : Int) : Prop := (Lit.int .i64 n).wf = true
section
variable {H : Type} {enc : TypeId × Value → H} {w : World} {base : Nat} {spare : Nat → Bool} {held : Bool}
theorem spOpen1 {fuel : Nat} {cs : List Value} {x : DataW H × List MemPlace} (h : DataW.trod enc Tryd.prog w base spare held fuel 41 cs = some x) : ∃ k n, cs = [.int .i64 k, .int .i64 n] ∧ spI k ∧ spI n := by
  obtain ⟨cs0, cs1, x0, x1, n', rfl, s0, s1⟩ := spFields (n0 := 1) (n1 := 1) Tryd.underlying41 (by kernel_rfl) rfl rfl (by kernel_rfl) (by kernel_rfl) h
  obtain ⟨z0, rfl, _, hw0⟩ := DataW.trod_int Tryd.underlying3 s0
  obtain ⟨z1, rfl, _, hw1⟩ := DataW.trod_int Tryd.underlying3 s1
  exact ⟨z0, z1, rfl, hw0, hw1⟩
/-- an argument that is a row of spans -/
theorem open_spans {ts : TypeId} {v : Value} {d : DataW H} {p : List MemPlace} (ht : Tryd.prog.underlying ts = some (.slice 41)) (hv : ∃ a len cap, v = .slice a len cap) (h : DataW.Trod enc Tryd.prog w base spare held ts v d p) :
    ∃ o c l, v = .slice o (List.length l) c ∧ SpAt (fun _ => True) w o l ∧ (∀ t ∈ l, spI t.1 ∧ spI t.2) ∧ l.length ≤ 9223372036854775807 ∧ l.length ≤ c := by
  obtain ⟨a0, l0, cc0, rfl⟩ := hv
  obtain ⟨fuel, hf⟩ := h
  rcases DataW.trod_slice ht hf with ⟨he, _⟩ | ⟨a, len, cap, elems, rest, n, hfu, he, _, _, hl, hm, hlen, hel, _⟩
  · simp [Value.cells] at he
    obtain ⟨rfl, rfl, rfl⟩ := he
    exact ⟨none, 0, [], rfl, fun i t h => by simp at h, fun t h => by simp at h, by simp, by simp⟩
  · simp [Value.cells] at he
    obtain ⟨rfl, rfl, rfl⟩ := he
    have hmx : l0 ≤ 9223372036854775807 := by unfold maxLen at *; omega
    have one : ∀ i, i < l0 → ∃ t : Sp, (w.cell? (a.add (i * 2)) = some (.int .i64 t.1) ∧ w.cell? (a.add (i * 2 + 1)) = some (.int .i64 t.2)) ∧ spI t.1 ∧ spI t.2 := by
      intro i hi
      have h1 := hel i hi
      rw [List.getElem?_eq_getElem (by omega)] at h1
      obtain ⟨cs', h2, h3⟩ := Option.bind_eq_some_iff.1 h1
      rw [show Tryd.prog.cellsOf 41 = 2 from by kernel_rfl] at h2
      obtain ⟨_, hcl, hcell⟩ := World.cells?_some h2
      obtain ⟨x, y, rfl, hw1, hw2⟩ := spOpen1 h3
      have e0 := hcell 0 (by omega)
      have e1 := hcell 1 (by omega)
      simp [Deep.add_add] at e0 e1
      exact ⟨(x, y), ⟨e0, e1⟩, hw1, hw2⟩
    obtain ⟨l, hll, hp⟩ := spList l0 one
    subst hll
    refine ⟨some a, _, l, rfl, fun i t ht => ?_, fun t ht => ?_, hmx, hl⟩
    · obtain ⟨⟨e0, e1⟩, _⟩ := hp i t ht
      obtain ⟨t0, ht0⟩ : ∃ t0, l[0]? = some t0 := ⟨_, List.getElem?_eq_getElem (by have := (List.getElem?_eq_some_iff.1 ht).1; omega)⟩
      obtain ⟨⟨f0, _⟩, _⟩ := hp 0 t0 ht0
      rw [Nat.zero_mul] at f0
      obtain ⟨b, off, rfl⟩ := spSpot f0
      exact ⟨b, off, rfl, trivial, by simpa [Addr.add_lit] using e0, by simpa [Addr.add_lit, Nat.add_assoc] using e1⟩
    · obtain ⟨i, hi⟩ := List.getElem?_of_mem ht
      exact (hp i t hi).2
end
end Go.Proofs.YtdlcakmjihfgfaaDoor
