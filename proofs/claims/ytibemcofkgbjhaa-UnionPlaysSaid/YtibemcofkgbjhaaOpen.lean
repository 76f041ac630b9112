/-
  Arguments that came in, as cells: [][2]uint8 and []uint8. No condition.
-/
import Derived.Test.YtibemcofkgbjhaaLaw
import Derived.Deep.Slices
namespace Go.Proofs.Ytibemcofkgbjhaa
open Go.ChangeShapes Go.WideShapes Go.ChangeAt Go.RowKit

/-- a [][2]uint8 that came in: its pairs' cells -/
def PairsAt (w : World) (o : Option Addr) (len : Nat) (A B : Nat → Nat) : Prop :=
  ∀ j, j < len → ∃ b off, o = some ⟨b, off, none⟩ ∧ w.cell? ⟨b, off + j * 2, none⟩ = some (.int .u8 (A j)) ∧ w.cell? ⟨b, off + j * 2 + 1, none⟩ = some (.int .u8 (B j)) ∧ A j ≤ 255 ∧ B j ≤ 255
def BytesAt (w : World) (o : Option Addr) (len : Nat) (A : Nat → Nat) : Prop :=
  ∀ j, j < len → ∃ b off, o = some ⟨b, off, none⟩ ∧ w.cell? ⟨b, off + j, none⟩ = some (.int .u8 (A j)) ∧ A j ≤ 255
theorem cell_lt {w : World} {a : Addr} {v : Value} (h : w.cell? a = some v) : a.block < w.heap.size := World.block_lt_of_cell? w a h
theorem PairsAt.fr {w w' : World} {o : Option Addr} {len : Nat} {A B : Nat → Nat} (h : PairsAt w o len A B) (hf : Fr (fun _ => False) w w') : PairsAt w' o len A B := by
  intro j hj
  obtain ⟨b, off, h1, h2, h3, h4, h5⟩ := h j hj
  exact ⟨b, off, h1, (hf.cell (cell_lt h2) (fun h => h)).trans h2, (hf.cell (cell_lt h3) (fun h => h)).trans h3, h4, h5⟩
theorem BytesAt.fr {w w' : World} {o : Option Addr} {len : Nat} {A : Nat → Nat} (h : BytesAt w o len A) (hf : Fr (fun _ => False) w w') : BytesAt w' o len A := by
  intro j hj
  obtain ⟨b, off, h1, h2, h4⟩ := h j hj
  exact ⟨b, off, h1, (hf.cell (cell_lt h2) (fun h => h)).trans h2, h4⟩

theorem spot_none {w : World} {a : Addr} {v : Value} (h : w.cell? (a.add 0) = some v) : ∃ b off, a = ⟨b, off, none⟩ := by
  obtain ⟨b, off, s⟩ := a
  cases s with
  | none => exact ⟨b, off, rfl⟩
  | some s =>
    unfold World.cell? Addr.add at h
    simp only [if_true] at h
    split at h <;> simp_all
theorem byte_of {k : Int} (h : (Lit.int .u8 k).wf = true) : ∃ n : Nat, k = n ∧ n ≤ 255 := by
  have : 0 ≤ k ∧ k ≤ 255 := by simpa [Lit.wf, IntKind.min, IntKind.max, IntKind.signed, IntKind.bits] using h
  exact ⟨k.toNat, by omega, by omega⟩

section
variable {H : Type} {enc : TypeId × Value → H} {P : Program} {w : World} {base : Nat} {spare : Nat → Bool} {held : Bool}
theorem open_bytes {t e : TypeId} {v : Value} {d : DataW H} {p : List MemPlace} (ht : P.underlying t = some (.slice e)) (he : P.underlying e = some (.int .u8)) (hc : P.cellsOf e = 1)
    (hv : ∃ a len cap, v = .slice a len cap) (h : DataW.Trod enc P w base spare held t v d p) : ∃ o len cap A, v = .slice o len cap ∧ len ≤ maxLen ∧ BytesAt w o len A := by
  obtain ⟨a0, l0, c0, rfl⟩ := hv
  obtain ⟨fuel, hf⟩ := h
  rcases Deep.open_slice1 ht hc hf with ⟨hcs, _⟩ | ⟨a, len, cap, m, n, V, D, Pl, hcs, _, hl, hm, hmm, _, hx⟩
  · simp [Value.cells] at hcs
    obtain ⟨rfl, rfl, rfl⟩ := hcs
    exact ⟨_, _, _, fun _ => 0, rfl, by simp [maxLen], fun j hj => by omega⟩
  · simp [Value.cells] at hcs
    obtain ⟨rfl, rfl, rfl⟩ := hcs
    have key : ∀ j, j < l0 → ∃ k : Nat, w.cell? (a.add j) = some (.int .u8 k) ∧ k ≤ 255 := by
      intro j hj
      obtain ⟨h1, h2⟩ := hx j (by rw [hmm]; split <;> omega)
      obtain ⟨z, hz, _, hwf⟩ := DataW.trod_int he h2
      obtain ⟨k, rfl, hk⟩ := byte_of hwf
      simp at hz
      exact ⟨k, by rw [h1, hz], hk⟩
    obtain ⟨A, hA⟩ := Deep.choose_lt key
    refine ⟨_, _, _, A, rfl, by omega, fun j hj => ?_⟩
    obtain ⟨h1, h2⟩ := hA j hj
    obtain ⟨b, off, rfl⟩ := spot_none (hA 0 (by omega)).1
    exact ⟨b, off, rfl, by simpa [Addr.add_lit] using h1, h2⟩
theorem open_pairs8 {t e q : TypeId} {v : Value} {d : DataW H} {p : List MemPlace} (ht : P.underlying t = some (.slice e)) (he : P.underlying e = some (.array 2 q)) (hq : P.underlying q = some (.int .u8)) (ce : P.cellsOf e = 2) (cq : P.cellsOf q = 1)
    (hv : ∃ a len cap, v = .slice a len cap) (h : DataW.Trod enc P w base spare held t v d p) : ∃ o len cap A B, v = .slice o len cap ∧ len ≤ maxLen ∧ PairsAt w o len A B := by
  obtain ⟨a0, l0, c0, rfl⟩ := hv
  obtain ⟨fuel, hf⟩ := h
  rcases Deep.open_slice ht hf with ⟨hcs, _⟩ | ⟨a, len, cap, m, n, D, Pl, hcs, _, hl, hm, hmm, _, hx⟩
  · simp [Value.cells] at hcs
    obtain ⟨rfl, rfl, rfl⟩ := hcs
    exact ⟨_, _, _, fun _ => 0, fun _ => 0, rfl, by simp [maxLen], fun j hj => by omega⟩
  · simp [Value.cells] at hcs
    obtain ⟨rfl, rfl, rfl⟩ := hcs
    have key : ∀ j, j < l0 → ∃ k : Nat × Nat, w.cell? (a.add (j * 2)) = some (.int .u8 k.1) ∧ w.cell? (a.add (j * 2 + 1)) = some (.int .u8 k.2) ∧ k.1 ≤ 255 ∧ k.2 ≤ 255 := by
      intro j hj
      obtain ⟨cs', h1, h2⟩ := hx j (by rw [hmm]; split <;> omega)
      rw [ce] at h1
      obtain ⟨_, hlen, hcell⟩ := World.cells?_some h1
      obtain ⟨xs, fm, rfl, _, _, hxl, hfx⟩ := DataW.trod_array he h2
      match cs', hlen with
      | [u0, u1], _ =>
        have f0 := hfx 0 (by omega)
        have f1 := hfx 1 (by omega)
        rw [cq] at f0 f1
        have g0 : xs[0]? = some (xs[0]'(by omega)) := by simp
        have g1 : xs[1]? = some (xs[1]'(by omega)) := by simp
        rw [g0] at f0
        rw [g1] at f1
        obtain ⟨z0, hz0, _, hw0⟩ := DataW.trod_int hq f0
        obtain ⟨z1, hz1, _, hw1⟩ := DataW.trod_int hq f1
        obtain ⟨k0, rfl, hk0⟩ := byte_of hw0
        obtain ⟨k1, rfl, hk1⟩ := byte_of hw1
        simp at hz0 hz1
        have e0 := hcell 0 (by omega)
        have e1 := hcell 1 (by omega)
        simp [Deep.add_add] at e0 e1
        refine ⟨(k0, k1), ?_, ?_, hk0, hk1⟩
        · have : (a.add (j * 2)).add 0 = a.add (j * 2) := by rw [Deep.add_add]; rfl
          rw [← this, hcell 0 (by omega)]; simp [hz0]
        · rw [e1, hz1]
    obtain ⟨A, hA⟩ := Deep.choose_lt key
    refine ⟨_, _, _, fun j => (A j).1, fun j => (A j).2, rfl, by omega, fun j hj => ?_⟩
    obtain ⟨h1, h2, h3, h4⟩ := hA j hj
    obtain ⟨b, off, rfl⟩ := spot_none (hA 0 (by omega)).1
    exact ⟨b, off, rfl, by simpa [Addr.add_lit] using h1, by simpa [Addr.add_lit, Nat.add_assoc] using h2, h3, h4⟩
end
end Go.Proofs.Ytibemcofkgbjhaa
