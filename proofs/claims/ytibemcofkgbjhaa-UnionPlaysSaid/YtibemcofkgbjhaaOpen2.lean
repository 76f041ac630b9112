/-
  Arguments that came in, as cells: []Op. No condition.
-/
import Derived.Test.YtibemcofkgbjhaaOpen
import Derived.Test.YtibemcofkgbjhaaPlay2
namespace Go.Proofs.Ytibemcofkgbjhaa
open Go.ChangeShapes Go.WideShapes Go.ChangeAt Go.RowKit
section
variable {H : Type} {enc : TypeId × Value → H} {P : Program} {w : World} {base : Nat} {spare : Nat → Bool} {held : Bool}
theorem open_ops {t e : TypeId} {f0 f1 f2 : Field} {v : Value} {d : DataW H} {p : List MemPlace} (ht : P.underlying t = some (.slice e)) (he : P.underlying e = some (.struct #[f0, f1, f2])) (ce : P.cellsOf e = 3)
    (o0 : f0.offset = 0) (o1 : f1.offset = 1) (o2 : f2.offset = 2) (c0 : P.cellsOf f0.type = 1) (c1 : P.cellsOf f1.type = 1) (c2 : P.cellsOf f2.type = 1) (k0 : P.underlying f0.type = some (.int .u8)) (k1 : P.underlying f1.type = some (.int .i64)) (k2 : P.underlying f2.type = some (.int .i64))
    (hv : ∃ a len cap, v = .slice a len cap) (h : DataW.Trod enc P w base spare held t v d p) : ∃ o len cap K A B, v = .slice o len cap ∧ len ≤ maxLen ∧ OpsAt w o len K A B := by
  obtain ⟨a0, l0, cc0, rfl⟩ := hv
  obtain ⟨fuel, hf⟩ := h
  rcases Deep.open_slice ht hf with ⟨hcs, _⟩ | ⟨a, len, cap, m, n, D, Pl, hcs, _, hl, hm, hmm, _, hx⟩
  · simp [Value.cells] at hcs
    obtain ⟨rfl, rfl, rfl⟩ := hcs
    exact ⟨_, _, _, fun _ => 0, fun _ => 0, fun _ => 0, rfl, by simp [maxLen], fun j hj => by omega⟩
  · simp [Value.cells] at hcs
    obtain ⟨rfl, rfl, rfl⟩ := hcs
    have key : ∀ j, j < l0 → ∃ k : Nat × Int × Int, w.cell? (a.add (j * 3)) = some (.int .u8 k.1) ∧ w.cell? (a.add (j * 3 + 1)) = some (.int .i64 k.2.1) ∧ w.cell? (a.add (j * 3 + 2)) = some (.int .i64 k.2.2) ∧ k.1 ≤ 255 := by
      intro j hj
      obtain ⟨cs', h1, h2⟩ := hx j (by rw [hmm]; split <;> omega)
      rw [ce] at h1
      obtain ⟨_, hlen, hcell⟩ := World.cells?_some h1
      obtain ⟨xs, k, _, _, _, hxl, hfx⟩ := DataW.trod_struct he h2
      match cs', hlen with
      | [u0, u1, u2], _ =>
        have hxl3 : xs.length = 3 := by simpa using hxl
        have s0 := hfx 0 f0 rfl
        have s1 := hfx 1 f1 rfl
        have s2 := hfx 2 f2 rfl
        rw [c0, o0, show xs[0]? = some (xs[0]'(by omega)) from by simp [hxl3]] at s0
        rw [c1, o1, show xs[1]? = some (xs[1]'(by omega)) from by simp [hxl3]] at s1
        rw [c2, o2, show xs[2]? = some (xs[2]'(by omega)) from by simp [hxl3]] at s2
        obtain ⟨z0, hz0, _, hw0⟩ := DataW.trod_int k0 s0
        obtain ⟨z1, hz1, _, hw1⟩ := DataW.trod_int k1 s1
        obtain ⟨z2, hz2, _, hw2⟩ := DataW.trod_int k2 s2
        obtain ⟨b0, rfl, hb0⟩ := byte_of hw0
        simp at hz0 hz1 hz2
        have e1 := hcell 1 (by omega)
        have e2 := hcell 2 (by omega)
        simp [Deep.add_add] at e1 e2
        refine ⟨(b0, z1, z2), ?_, ?_, ?_, hb0⟩
        · have : (a.add (j * 3)).add 0 = a.add (j * 3) := by rw [Deep.add_add]; rfl
          rw [← this, hcell 0 (by omega)]; simp [hz0]
        · rw [e1, hz1]
        · rw [e2, hz2]
    obtain ⟨F, hF⟩ := Deep.choose_lt key
    refine ⟨_, _, _, fun j => (F j).1, fun j => (F j).2.1, fun j => (F j).2.2, rfl, by omega, fun j hj => ?_⟩
    obtain ⟨h1, h2, h3, h4⟩ := hF j hj
    obtain ⟨b, off, rfl⟩ := spot_none (hF 0 (by omega)).1
    exact ⟨b, off, rfl, by simpa [Addr.add_lit] using h1, by simpa [Addr.add_lit, Nat.add_assoc] using h2, by simpa [Addr.add_lit, Nat.add_assoc] using h3, h4⟩
end
end Go.Proofs.Ytibemcofkgbjhaa
