/-
  Arguments that came in: a string, tokens. No condition.
-/
import Derived.Test.YtaojlionebkcoaaDoorLaw
import Derived.Test.YtaojlionebkcoaaDoorLexPrint
import Derived.Deep.Slices
namespace Go.Proofs.YtaojlionebkcoaaDoor
open Go.ChangeShapes Go.WideShapes Go.ChangeAt Go.RowKit

theorem spot_none {w : World} {a : Addr} {v : Value} (h : w.cell? (a.add 0) = some v) : ∃ b off, a = ⟨b, off, none⟩ := by
  obtain ⟨b, off, s⟩ := a
  cases s with
  | none => exact ⟨b, off, rfl⟩
  | some s =>
    unfold World.cell? Addr.add at h
    simp only [if_true] at h
    split at h <;> simp_all
section
variable {H : Type} {enc : TypeId × Value → H} {P : Program} {w : World} {base : Nat} {spare : Nat → Bool} {held : Bool}
theorem open_toks {t e : TypeId} {f0 f1 f2 g0 g1 : Field} {v : Value} {d : DataW H} {p : List MemPlace} (ht : P.underlying t = some (.slice e)) (he : P.underlying e = some (.struct #[f0, f1, f2])) (ce : P.cellsOf e = 4)
    (o0 : f0.offset = 0) (o1 : f1.offset = 1) (o2 : f2.offset = 2) (c0 : P.cellsOf f0.type = 1) (c1 : P.cellsOf f1.type = 1) (c2 : P.cellsOf f2.type = 2) (k0 : P.underlying f0.type = some (.int .i64)) (k1 : P.underlying f1.type = some .string)
    (he2 : P.underlying f2.type = some (.struct #[g0, g1])) (p0 : g0.offset = 0) (p1 : g1.offset = 1) (d0 : P.cellsOf g0.type = 1) (d1 : P.cellsOf g1.type = 1) (q0 : P.underlying g0.type = some (.int .i64)) (q1 : P.underlying g1.type = some (.int .i64))
    (hv : ∃ a len cap, v = .slice a len cap) (h : DataW.Trod enc P w base spare held t v d p) : ∃ o n c ts, v = .slice o n c ∧ GToks w o ts ∧ ts.length = n := by
  obtain ⟨a0, l0, cc0, rfl⟩ := hv
  obtain ⟨fuel, hf⟩ := h
  rcases Deep.open_slice ht hf with ⟨hcs, _⟩ | ⟨a, len, cap, m, n, D, Pl, hcs, _, hl, hm, hmm, _, hx⟩
  · simp [Value.cells] at hcs
    obtain ⟨rfl, rfl, rfl⟩ := hcs
    exact ⟨_, _, _, [], rfl, fun i t hi => by simp at hi, rfl⟩
  · simp [Value.cells] at hcs
    obtain ⟨rfl, rfl, rfl⟩ := hcs
    have key : ∀ j, j < l0 → ∃ k : (Int × ByteArray) × Int × Int, w.cell? (a.add (j * 4)) = some (.int .i64 k.1.1) ∧ w.cell? (a.add (j * 4 + 1)) = some (.string k.1.2) ∧ w.cell? (a.add (j * 4 + 2)) = some (.int .i64 k.2.1) ∧ w.cell? (a.add (j * 4 + 3)) = some (.int .i64 k.2.2) := by
      intro j hj
      obtain ⟨cs', h1, h2⟩ := hx j (by rw [hmm]; split <;> omega)
      rw [ce] at h1
      obtain ⟨_, hlen, hcell⟩ := World.cells?_some h1
      obtain ⟨xs, k, _, _, _, hxl, hfx⟩ := DataW.trod_struct he h2
      match cs', hlen with
      | [u0, u1, u2, u3], _ =>
        have hxl3 : xs.length = 3 := by simpa using hxl
        have s0 := hfx 0 f0 rfl
        have s1 := hfx 1 f1 rfl
        have s2 := hfx 2 f2 rfl
        rw [c0, o0, show xs[0]? = some (xs[0]'(by omega)) from by simp [hxl3]] at s0
        rw [c1, o1, show xs[1]? = some (xs[1]'(by omega)) from by simp [hxl3]] at s1
        rw [c2, o2, show xs[2]? = some (xs[2]'(by omega)) from by simp [hxl3]] at s2
        obtain ⟨z0, hz0, _, hw0⟩ := DataW.trod_int k0 s0
        obtain ⟨z1, hz1, _, hw1⟩ := DataW.trod_string k1 s1
        obtain ⟨ys, k', _, _, _, hyl, hfy⟩ := DataW.trod_struct he2 s2
        have hyl2 : ys.length = 2 := by simpa using hyl
        have r0 := hfy 0 g0 rfl
        have r1 := hfy 1 g1 rfl
        rw [d0, p0, show ys[0]? = some (ys[0]'(by omega)) from by simp [hyl2]] at r0
        rw [d1, p1, show ys[1]? = some (ys[1]'(by omega)) from by simp [hyl2]] at r1
        obtain ⟨z2, hz2, _, hw2⟩ := DataW.trod_int q0 r0
        obtain ⟨z3, hz3, _, hw3⟩ := DataW.trod_int q1 r1
        simp at hz0 hz1 hz2 hz3
        have e1 := hcell 1 (by omega)
        have e2 := hcell 2 (by omega)
        have e3 := hcell 3 (by omega)
        simp [Deep.add_add] at e1 e2 e3
        refine ⟨((z0, z1), z2, z3), ?_, ?_, ?_, ?_⟩
        · have : (a.add (j * 4)).add 0 = a.add (j * 4) := by rw [Deep.add_add]; rfl
          rw [← this, hcell 0 (by omega)]; simp [hz0]
        · rw [e1, hz1]
        · rw [e2, hz2]
        · rw [e3, hz3]
    obtain ⟨F, hF⟩ := Deep.choose_lt key
    refine ⟨_, _, _, (List.range l0).map (fun j => (F j).1), rfl, ?_, by simp⟩
    intro i t hi
    have hil : i < l0 := by have := (List.getElem?_eq_some_iff.1 hi).1; simpa using this
    rw [List.getElem?_map, List.getElem?_range hil] at hi
    simp at hi
    subst hi
    obtain ⟨h1, h2, h3, h4⟩ := hF i hil
    obtain ⟨b, off, rfl⟩ := spot_none (hF 0 (by omega)).1
    exact ⟨b, off, rfl, (F i).2.1, (F i).2.2, by simpa [Addr.add_lit] using h1, by simpa [Addr.add_lit, Nat.add_assoc] using h2, by simpa [Addr.add_lit, Nat.add_assoc] using h3, by simpa [Addr.add_lit, Nat.add_assoc] using h4⟩
end
end Go.Proofs.YtaojlionebkcoaaDoor
