/-
  The forest in memory, and the plain law of its roots. No condition.
-/
import Derived.Test.YtibemcofkgbjhaaMem
namespace Go.Proofs.Ytibemcofkgbjhaa
open Go.RowKit

def iv (l : List Nat) : List Value := l.map (fun (n : Nat) => Value.int .i64 (n : Int))

/-- the forest in memory: the struct's block fb, the row of parents ub, the row of ranks rb. -/
structure FAt (w : World) (fb ub rb uc rc : Nat) (up rk : List Nat) (sets steps : Nat) : Prop where
  blk : w.heap[fb]? = some (.cells #[.slice (some ⟨ub, 0, none⟩) up.length uc, .slice (some ⟨rb, 0, none⟩) rk.length rc, .int .i64 sets, .int .i64 steps] 54 (0, 0))
  ups : w.ownsRow 0 3 1 (.slice (some ⟨ub, 0, none⟩) up.length uc) up.length (iv up)
  rks : w.ownsRow 0 3 1 (.slice (some ⟨rb, 0, none⟩) rk.length rc) rk.length (iv rk)
  d1 : fb ≠ ub
  d2 : fb ≠ rb
  d3 : ub ≠ rb
  big : up.length ≤ 1048576

/-- the same where there may be none: the rows are two values. -/
structure FV (w : World) (fb : Nat) (uv rv : Value) (up rk : List Nat) (sets steps : Nat) : Prop where
  blk : w.heap[fb]? = some (.cells #[uv, rv, .int .i64 sets, .int .i64 steps] 54 (0, 0))
  ups : w.ownsRow 0 3 1 uv up.length (iv up)
  rks : w.ownsRow 0 3 1 rv rk.length (iv rk)
  d1 : uv.ownBlock ≠ some fb
  d2 : rv.ownBlock ≠ some fb
  d3 : ∀ k, uv.ownBlock = some k → rv.ownBlock ≠ some k
  big : up.length ≤ 1048576
  rlen : rk.length = up.length

/-- R tells each one's root; K rises on the way; M is above all of it. -/
structure Rooted (up : List Nat) (R K : Nat → Nat) (M : Nat) : Prop where
  lt : ∀ x, x < up.length → up.getD x 0 < up.length
  same : ∀ x, x < up.length → R (up.getD x 0) = R x
  fix : ∀ x, x < up.length → (up.getD x 0 = x ↔ R x = x)
  rise : ∀ x, x < up.length → up.getD x 0 ≠ x → K x < K (up.getD x 0)
  top : ∀ x, x < up.length → K x ≤ M

section
variable {w : World} {fb ub rb uc rc : Nat} {up rk : List Nat} {sets steps : Nat}
theorem FAt.c0 (h : FAt w fb ub rb uc rc up rk sets steps) : w.cell? ⟨fb, 0, none⟩ = some (.slice (some ⟨ub, 0, none⟩) up.length uc) := by simp [World.cell?, h.blk]
theorem FAt.c1 (h : FAt w fb ub rb uc rc up rk sets steps) : w.cell? ⟨fb, 1, none⟩ = some (.slice (some ⟨rb, 0, none⟩) rk.length rc) := by simp [World.cell?, h.blk]
theorem FAt.c2 (h : FAt w fb ub rb uc rc up rk sets steps) : w.cell? ⟨fb, 2, none⟩ = some (.int .i64 sets) := by simp [World.cell?, h.blk]
theorem FAt.c3 (h : FAt w fb ub rb uc rc up rk sets steps) : w.cell? ⟨fb, 3, none⟩ = some (.int .i64 steps) := by simp [World.cell?, h.blk]
theorem FAt.z (h : FAt w fb ub rb uc rc up rk sets steps) (k : Nat) : w.frozen? ⟨fb, k, none⟩ = false := by simp [World.frozen?, h.blk]
theorem iv_get (l : List Nat) (x : Nat) (hx : x < l.length) : (iv l)[x]? = some (.int .i64 (l.getD x 0 : Nat)) := by simp [iv, hx]
theorem iv_set (l : List Nat) (x v : Nat) : (iv l).set x (.int .i64 v) = iv (l.set x v) := by simp [iv, List.map_set]
theorem FAt.cu (h : FAt w fb ub rb uc rc up rk sets steps) (x : Nat) (hx : x < up.length) : w.cell? ⟨ub, x, none⟩ = some (.int .i64 (up.getD x 0 : Nat)) := by
  rw [h.ups.cellAt x (by omega), iv_get _ _ hx]
theorem FAt.zu (h : FAt w fb ub rb uc rc up rk sets steps) (x : Nat) : w.frozen? ⟨ub, x, none⟩ = false := h.ups.frozenAt x
theorem FAt.cr (h : FAt w fb ub rb uc rc up rk sets steps) (x : Nat) (hx : x < rk.length) : w.cell? ⟨rb, x, none⟩ = some (.int .i64 (rk.getD x 0 : Nat)) := by
  rw [h.rks.cellAt x (by omega), iv_get _ _ hx]
theorem FAt.zr (h : FAt w fb ub rb uc rc up rk sets steps) (x : Nat) : w.frozen? ⟨rb, x, none⟩ = false := h.rks.frozenAt x
theorem heap_setCell_at (w : World) (b o : Nat) (c : Array Value) (T : TypeId) (z : Nat × Nat) (u : Value) (h : w.heap[b]? = some (.cells c T z)) :
    (w.setCell ⟨b, o, none⟩ u).heap[b]? = some (.cells (c.setIfInBounds o u) T z) := by
  simp [World.setCell, Array.getElem?_modify, h]
theorem FAt.setSteps (h : FAt w fb ub rb uc rc up rk sets steps) (s : Nat) : FAt (w.setCell ⟨fb, 3, none⟩ (.int .i64 s)) fb ub rb uc rc up rk sets s := by
  have d1 := h.d1
  have d2 := h.d2
  refine ⟨?_, ownsRow_setCell_other h.ups _ _ ?_, ownsRow_setCell_other h.rks _ _ ?_, h.d1, h.d2, h.d3, h.big⟩
  · rw [heap_setCell_at _ _ _ _ _ _ _ h.blk]; rfl
  · simp [Value.ownBlock]; omega
  · simp [Value.ownBlock]; omega
theorem FAt.setSets (h : FAt w fb ub rb uc rc up rk sets steps) (s : Nat) : FAt (w.setCell ⟨fb, 2, none⟩ (.int .i64 s)) fb ub rb uc rc up rk s steps := by
  have d1 := h.d1
  have d2 := h.d2
  refine ⟨?_, ownsRow_setCell_other h.ups _ _ ?_, ownsRow_setCell_other h.rks _ _ ?_, h.d1, h.d2, h.d3, h.big⟩
  · rw [heap_setCell_at _ _ _ _ _ _ _ h.blk]; rfl
  · simp [Value.ownBlock]; omega
  · simp [Value.ownBlock]; omega
theorem FAt.setUp (h : FAt w fb ub rb uc rc up rk sets steps) (x v : Nat) : FAt (w.setCell ⟨ub, x, none⟩ (.int .i64 v)) fb ub rb uc rc (up.set x v) rk sets steps := by
  have d3 := h.d3
  refine ⟨?_, ?_, ownsRow_setCell_other h.rks _ _ ?_, h.d1, h.d2, h.d3, by simpa using h.big⟩
  · rw [Below.heap_setCell _ _ _ _ h.d1, List.length_set]; exact h.blk
  · rw [List.length_set, ← iv_set]; exact (h.ups.stored x _).1
  · simp [Value.ownBlock]; omega
theorem FAt.setRk (h : FAt w fb ub rb uc rc up rk sets steps) (x v : Nat) : FAt (w.setCell ⟨rb, x, none⟩ (.int .i64 v)) fb ub rb uc rc up (rk.set x v) sets steps := by
  have d3 := h.d3
  refine ⟨?_, ownsRow_setCell_other h.ups _ _ ?_, ?_, h.d1, h.d2, h.d3, h.big⟩
  · rw [Below.heap_setCell _ _ _ _ h.d2, List.length_set]; exact h.blk
  · simp [Value.ownBlock]; omega
  · rw [List.length_set, ← iv_set]; exact (h.rks.stored x _).1
theorem FAt.drew (h : FAt w fb ub rb uc rc up rk sets steps) : FAt w.drew fb ub rb uc rc up rk sets steps := ⟨h.blk, h.ups, h.rks, h.d1, h.d2, h.d3, h.big⟩
theorem FAt.keep {w' : World} (h : FAt w fb ub rb uc rc up rk sets steps) (h1 : w'.heap[fb]? = w.heap[fb]?) (h2 : w'.heap[ub]? = w.heap[ub]?) (h3 : w'.heap[rb]? = w.heap[rb]?) : FAt w' fb ub rb uc rc up rk sets steps :=
  ⟨by rw [h1]; exact h.blk, ownsRow_same h.ups (fun k hk => by simp [Value.ownBlock] at hk; subst hk; exact h2), ownsRow_same h.rks (fun k hk => by simp [Value.ownBlock] at hk; subst hk; exact h3), h.d1, h.d2, h.d3, h.big⟩
end

theorem ownsRow_some {w : World} {base : Nat} {e : TypeId} {size : Nat} {v : Value} {n : Nat} {xs : List Value} (h : w.ownsRow base e size v n xs) (hn : 0 < n) : ∃ g c, v = .slice (some ⟨g, 0, none⟩) n c := by
  rcases h.2 with ⟨rfl, h0⟩ | ⟨g, cap, cur, rfl, _⟩
  · omega
  · exact ⟨g, cap, rfl⟩
theorem ownsRow_len {w : World} {base : Nat} {e : TypeId} {size : Nat} {v : Value} {n : Nat} {xs : List Value} (h : w.ownsRow base e size v n xs) : ∃ o c, v = .slice o n c := by
  rcases h.2 with ⟨rfl, rfl⟩ | ⟨g, cap, cur, rfl, _⟩
  · exact ⟨none, 0, rfl⟩
  · exact ⟨some ⟨g, 0, none⟩, cap, rfl⟩
theorem FV.toFAt {w : World} {fb : Nat} {uv rv : Value} {up rk : List Nat} {sets steps : Nat} (h : FV w fb uv rv up rk sets steps) (hn : 0 < up.length) :
    ∃ ub rb uc rc, uv = .slice (some ⟨ub, 0, none⟩) up.length uc ∧ rv = .slice (some ⟨rb, 0, none⟩) rk.length rc ∧ FAt w fb ub rb uc rc up rk sets steps := by
  have hrl := h.rlen
  obtain ⟨ub, uc, rfl⟩ := ownsRow_some h.ups hn
  obtain ⟨rb, rc, rfl⟩ := ownsRow_some h.rks (by omega)
  have d1 := h.d1
  have d2 := h.d2
  have d3 := h.d3 ub rfl
  simp [Value.ownBlock] at d1 d2 d3
  exact ⟨ub, rb, uc, rc, rfl, rfl, h.blk, h.ups, h.rks, Ne.symm d1, Ne.symm d2, Ne.symm d3, h.big⟩
theorem FAt.toFV {w : World} {fb ub rb uc rc : Nat} {up rk : List Nat} {sets steps : Nat} (h : FAt w fb ub rb uc rc up rk sets steps) (hl : rk.length = up.length) :
    FV w fb (.slice (some ⟨ub, 0, none⟩) up.length uc) (.slice (some ⟨rb, 0, none⟩) rk.length rc) up rk sets steps := by
  have d1 := h.d1
  have d2 := h.d2
  have d3 := h.d3
  exact ⟨h.blk, h.ups, h.rks, by simp [Value.ownBlock]; omega, by simp [Value.ownBlock]; omega, fun k hk => by simp [Value.ownBlock] at hk ⊢; omega, h.big, hl⟩

section
variable {up : List Nat} {R K : Nat → Nat} {M : Nat}
theorem Rooted.root (h : Rooted up R K M) : ∀ (k x : Nat), M - K x ≤ k → x < up.length → R x < up.length ∧ R (R x) = R x ∧ K x ≤ K (R x) := by
  intro k
  induction k with
  | zero =>
    intro x hk hx
    by_cases e : up.getD x 0 = x
    · rw [(h.fix x hx).1 e]; exact ⟨hx, (h.fix x hx).1 e, Nat.le_refl _⟩
    · have := h.rise x hx e; have := h.top _ (h.lt x hx); omega
  | succ k ih =>
    intro x hk hx
    by_cases e : up.getD x 0 = x
    · rw [(h.fix x hx).1 e]; exact ⟨hx, (h.fix x hx).1 e, Nat.le_refl _⟩
    · have h1 := h.rise x hx e
      have h2 := h.top _ (h.lt x hx)
      obtain ⟨a, b, c⟩ := ih (up.getD x 0) (by omega) (h.lt x hx)
      rw [h.same x hx] at a b c
      exact ⟨a, b, by omega⟩
theorem Rooted.rootLt (h : Rooted up R K M) {x : Nat} (hx : x < up.length) : R x < up.length := (h.root _ x (Nat.le_refl _) hx).1
theorem Rooted.rootFix (h : Rooted up R K M) {x : Nat} (hx : x < up.length) : R (R x) = R x := (h.root _ x (Nat.le_refl _) hx).2.1
theorem Rooted.rootTop (h : Rooted up R K M) {x : Nat} (hx : x < up.length) : K x ≤ K (R x) := (h.root _ x (Nat.le_refl _) hx).2.2
theorem getD_set (l : List Nat) (x v y : Nat) (hx : x < l.length) : (l.set x v).getD y 0 = if y = x then v else l.getD y 0 := by
  by_cases e : y = x
  · subst e; simp [List.getD, List.getElem?_set, hx]
  · simp [List.getD, List.getElem?_set, e, Ne.symm e]
/-- one comes to stand right below its root. -/
theorem Rooted.press (h : Rooted up R K M) {x : Nat} (hx : x < up.length) (hne : up.getD x 0 ≠ R x) : Rooted (up.set x (R x)) R K M := by
  have hl := h.rootLt hx
  have hf := h.rootFix hx
  have hxr : up.getD x 0 ≠ x := fun e => hne (by rw [(h.fix x hx).1 e]; exact e)
  have hRx : R x ≠ x := fun e => hxr ((h.fix x hx).2 e)
  refine ⟨?_, ?_, ?_, ?_, ?_⟩
  · intro y hy; rw [List.length_set] at hy ⊢; rw [getD_set _ _ _ _ hx]; split
    · exact hl
    · exact h.lt y hy
  · intro y hy; rw [List.length_set] at hy; rw [getD_set _ _ _ _ hx]; split
    · rename_i e; subst e; exact hf
    · exact h.same y hy
  · intro y hy; rw [List.length_set] at hy; rw [getD_set _ _ _ _ hx]; split
    · rename_i e; subst e; exact Iff.rfl
    · exact h.fix y hy
  · intro y hy; rw [List.length_set] at hy; rw [getD_set _ _ _ _ hx]; split
    · rename_i e; subst e; intro _
      have h1 := h.rise y hx hxr
      have h2 := h.rootTop (h.lt y hx)
      rw [h.same y hx] at h2
      omega
    · exact h.rise y hy
  · intro y hy; rw [List.length_set] at hy; exact h.top y hy
end
end Go.Proofs.Ytibemcofkgbjhaa
