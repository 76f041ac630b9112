/-
  Rows of bytes that came in as arguments. No condition.
-/
import Derived.Test.YtemoohepiogdgaaSpOpen
namespace Go.Proofs.Ytemoohepiogdgaa
open Go.ChangeShapes Go.WideShapes Go.ChangeAt Go.RowKit

def SpBytesAt (w : World) (o : Option Addr) (len : Nat) (A : Nat → Nat) : Prop :=
  ∀ j, j < len → ∃ b off, o = some ⟨b, off, none⟩ ∧ w.cell? ⟨b, off + j, none⟩ = some (.int .u8 (A j)) ∧ A j ≤ 255
theorem spCellLt {w : World} {a : Addr} {v : Value} (h : w.cell? a = some v) : a.block < w.heap.size := World.block_lt_of_cell? w a h
theorem SpBytesAt.fr {w w' : World} {o : Option Addr} {len : Nat} {A : Nat → Nat} (h : SpBytesAt w o len A) (hf : Fr (fun _ => False) w w') : SpBytesAt w' o len A := by
  intro j hj
  obtain ⟨b, off, h1, h2, h4⟩ := h j hj
  exact ⟨b, off, h1, (hf.cell (spCellLt h2) (fun h => h)).trans h2, h4⟩

theorem spByteOf {k : Int} (h : (Lit.int .u8 k).wf = true) : ∃ n : Nat, k = n ∧ n ≤ 255 := by
  have : 0 ≤ k ∧ k ≤ 255 := by simpa [Lit.wf, IntKind.min, IntKind.max, IntKind.signed, IntKind.bits] using h
  exact ⟨k.toNat, by omega, by omega⟩

section
variable {H : Type} {enc : TypeId × Value → H} {P : Program} {w : World} {base : Nat} {spare : Nat → Bool} {held : Bool}
theorem spOpenBytes {t e : TypeId} {v : Value} {d : DataW H} {p : List MemPlace} (ht : P.underlying t = some (.slice e)) (he : P.underlying e = some (.int .u8)) (hc : P.cellsOf e = 1)
    (hv : ∃ a len cap, v = .slice a len cap) (h : DataW.Trod enc P w base spare held t v d p) : ∃ o len cap A, v = .slice o len cap ∧ len ≤ maxLen ∧ SpBytesAt w o len A := by
  obtain ⟨a0, l0, c0, rfl⟩ := hv
  obtain ⟨fuel, hf⟩ := h
  rcases Deep.open_slice1 ht hc hf with ⟨hcs, _⟩ | ⟨a, len, cap, m, n, V, D, Pl, hcs, _, hl, hm, hmm, _, hx⟩
  · simp [Value.cells] at hcs
    obtain ⟨rfl, rfl, rfl⟩ := hcs
    exact ⟨_, _, _, fun _ => 0, rfl, by simp [maxLen], fun j hj => by omega⟩
  · simp [Value.cells] at hcs
    obtain ⟨rfl, rfl, rfl⟩ := hcs
    have key : ∀ j, j < l0 → ∃ k : Nat, w.cell? (a.add j) = some (.int .u8 k) ∧ k ≤ 255 := by
      intro j hj
      obtain ⟨h1, h2⟩ := hx j (by rw [hmm]; split <;> omega)
      obtain ⟨z, hz, _, hwf⟩ := DataW.trod_int he h2
      obtain ⟨k, rfl, hk⟩ := spByteOf hwf
      simp at hz
      exact ⟨k, by rw [h1, hz], hk⟩
    obtain ⟨A, hA⟩ := Deep.choose_lt key
    refine ⟨_, _, _, A, rfl, by omega, fun j hj => ?_⟩
    obtain ⟨h1, h2⟩ := hA j hj
    obtain ⟨b, off, rfl⟩ := spSpot (hA 0 (by omega)).1
    exact ⟨b, off, rfl, by simpa [Addr.add_lit] using h1, h2⟩
end
end Go.Proofs.Ytemoohepiogdgaa
