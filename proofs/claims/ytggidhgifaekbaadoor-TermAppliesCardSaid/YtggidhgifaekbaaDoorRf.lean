/-
  A range over a function whose iterator writes cells of its own: what iterator and caller promise each other (a set D of blocks is the caller's), and the law of the statement. No condition.
-/
import Derived.Test.YtggidhgifaekbaaDoorMem2
import Derived.RangeFuncOwn
import Derived.RangeFuncCalls
namespace Go.Proofs.YtggidhgifaekbaaDoor
open Go.RowKit

theorem Fr.putObj (S : Nat → Prop) (w : World) (r : Nat) (o : Obj) (h : S r) : Fr S w (w.putObj r o) :=
  ⟨rfl, rfl, rfl, by simp, fun k _ hk => World.putObj_heap_other (fun e => hk (by rw [e]; exact h))⟩
theorem room_wide_any (k : Nat) : Fence.wide.room k := fun d h => by cases h
/-- at the wide fence the figures of depth are all one -/
theorem yield_any {m : Nat} (m' : Nat) {P : Program} {l : Nat} {args : Array Value} {W : World} {R : Ending → World → Prop} (h : YieldAt Fence.wide m P l args W R) : YieldAt Fence.wide m' P l args W R := by
  obtain ⟨fn, tmps, assign, body, hy, hR⟩ := h
  exact ⟨fn, tmps, assign, body, hy, hR.1, fun c cs _ => hR.2 c cs (room_wide_any _)⟩

/-- the iterator's contract: the values xs come, one by one; what lies in R it reads; the blocks D are the caller's -/
def SeqC {α : Type} (n : Nat) (P : Program) (g : Nat) (lb : Array Value) (Enc : Nat → α → Array Value → World → Prop) (R : Nat → Prop) (xs : List α) (w : World) : Prop :=
  ∀ (l : Nat) (J : Nat → (Nat → Prop) → World → Prop) (Jx : World → Prop) (W : World) (D0 : Nat → Prop), Fr (fun _ => False) w W →
    (∀ i D A, J i D A → ∀ k, D k → k < A.heap.size ∧ ¬ R k) →
    (∀ i D A B, J i D A → Fr (fun k => W.heap.size ≤ k ∧ ¬ D k) A B → J i D B) →
    (∀ A B, Jx A → Fr (fun _ => False) A B → Jx B) →
    (∀ i x va D W1, xs[i]? = some x → Enc i x va W1 → J i D W1 → YieldAt Fence.wide n P l va W1 fun e W' =>
      (e = .returned (.bool true) ∧ ∃ D', J (i + 1) D' W' ∧ Fr D W1 W' ∧ ∀ k, D' k → D k ∨ W1.heap.size ≤ k) ∨ (e = .returned (.bool false) ∧ Jx W')) →
    J 0 D0 W →
    CallsIn Fence.wide n P g (#[.func (.yield l) #[] #[]] ++ lb) W fun e W' => (∃ v, e = .returned v) ∧ ((∃ D, J xs.length D W') ∨ Jx W')

/-- how a round's body may be left -/
def rfPost (I : Nat → (Nat → Prop) → World → Prop) (Ix : Code → World → Prop) (i : Nat) (D : Nat → Prop) (W : World) : Exit → Act → World → Prop
  | .normal, _, W' => ∃ D', I (i + 1) D' W' ∧ Fr D W W' ∧ ∀ k, D' k → D k ∨ W.heap.size ≤ k
  | .ret, _, W' => Ix .ret W' ∧ Fr D W W'
  | .exit id, _, W' => Ix (.exit id) W' ∧ Fr D W W'
  | .goto t, _, W' => Ix (.goto t) W' ∧ Fr D W W'
  | .panic _, _, _ => False
  | .outgrown, _, _ => False

theorem wpIn_range_c {α : Type} {n : Nat} {P : Program} {g : Operand} {ps : Array Tmp} {assign body : Code} {Q : Exit → Act → World → Prop} {a : Act} {w : World}
    {gf : Nat} {lb : Array Value} (hg : a.eval g = .func (.func gf) #[] lb) (eg : ∀ args w, (callFunc gf args).run P w = .ok (.enter gf args) w)
    {Enc : Nat → α → Array Value → World → Prop} {R : Nat → Prop} {xs : List α} {w0 : World} (hseq : SeqC (n - 1) P gf lb Enc R xs w0) (hR : ∀ k, R k → k < w0.heap.size) (hb0 : Fr (fun _ => False) w0 w) (hps : ∀ i x va W, Enc i x va W → va.size = ps.size)
    (I : Nat → (Nat → Prop) → World → Prop) (Im : Nat → α → Act → (Nat → Prop) → World → Prop) (Ix : Code → World → Prop) (D0 : Nat → Prop)
    (hown : ∀ i D A, I i D A → ∀ k, D k → k < A.heap.size ∧ ¬ R k ∧ (k < w.heap.size ∨ w.heap.size + 2 ≤ k))
    (hI : ∀ i D A B, I i D A → Fr (fun k => w.heap.size ≤ k ∧ ¬ D k) A B → I i D B)
    (hIm : ∀ i x a' D A B, Im i x a' D A → Fr (fun k => k = w.heap.size + 1) A B → Im i x a' D B)
    (hIx : ∀ c A B, Ix c A → Fr (fun k => k = w.heap.size + 1) A B → Ix c B)
    (h0 : I 0 D0 w)
    (hassign : ∀ (l i : Nat) (x : α) (va : Array Value) (D : Nat → Prop) (W : World) (K : Act → World → Prop), xs[i]? = some x → Enc i x va W → I i D W → w.heap.size + 2 ≤ W.heap.size → (∀ a' W', Im i x a' D W' → Fr (fun _ => False) W W' → K a' W') →
      assign.wpIn (Fence.wide.inRound l) (n - 1) P (Exit.then K (fun _ _ _ => False)) { tmps := (ps.zip va).foldl (fun t (p, v) => t.setIfInBounds p v) a.tmps, defers := [] } W)
    (hbody : ∀ (l i : Nat) (x : α) (a' : Act) (D : Nat → Prop) (W : World), xs[i]? = some x → Im i x a' D W → w.heap.size + 2 ≤ W.heap.size → body.wpIn (Fence.wide.inRound l) (n - 1) P (rfPost I Ix i D W) a' W)
    (hdone : ∀ (D : Nat → Prop) (W : World), I xs.length D W → W.heap[w.heap.size]? = some (.deferred (some [])) → Q .normal { a with defers := { target := .collected w.heap.size, args := #[] } :: a.defers } W)
    (hstop : ∀ (c : Code) (W : World), Ix c W → W.heap[w.heap.size]? = some (.deferred (some [])) → c.wpIn Fence.wide n P Q { a with defers := { target := .collected w.heap.size, args := #[] } :: a.defers } W) :
    (Code.rangeFunc g ps assign body).wpIn Fence.wide n P Q a w := by
  refine wpIn_rangeFunc ?_
  intro fn hfn
  change ∃ l mark w₁ d w₁' f args w₂, (Instr.enterLoop fn a.tmps ps assign body none).run P w = _ ∧ _
  obtain ⟨B, hB⟩ : ∃ B, B = w.heap.size := ⟨_, rfl⟩
  obtain ⟨rc, hrc⟩ : ∃ rc : LoopState → Option Code → Loop, rc = fun st pe => { state := st, pending := pe, fn, tmps := a.tmps, params := ps, assign, body, defers := w.heap.size } := ⟨_, rfl⟩
  obtain ⟨W1, hW1⟩ : ∃ W1, W1 = (w.alloc (.deferred (some []))).alloc (.loop (rc .ready none)) := ⟨_, rfl⟩
  have hf1 : Fr (fun _ => False) w W1 := by rw [hW1]; exact (Fr.alloc _ _ _).trans (Fr.alloc _ _ _)
  have hs1 : W1.heap.size = B + 2 := by rw [hW1, hB]; simp
  have hL1 : W1.heap[B + 1]? = some (.loop (rc .ready none)) := by
    have h := World.alloc_heap_new (w.alloc (.deferred (some []))) (.loop (rc .ready none))
    rw [World.size_alloc] at h
    rw [hW1, hB]; exact h
  have hK1 : W1.heap[B]? = some (.deferred (some [])) := by
    rw [hW1, hB]; exact ((Fr.alloc (fun _ => False) (w.alloc (.deferred (some []))) _).block w.heap.size (by simp) (fun h => h)).trans (World.alloc_heap_new w _)
  refine ⟨B + 1, [{ target := .collected B, args := #[] }], W1, { target := .fn (.func gf) lb, args := #[.func (.yield (B + 1)) #[] #[]] }, W1, gf, #[.func (.yield (B + 1)) #[] #[]] ++ lb, W1, ?_, ?_, fun _ _ => trivial, ?_, fun h => by simp [Fence.wide] at h, ?_⟩
  · rw [hW1, hrc, hB]; exact run_enterLoop_outer _ _ _ _ _
  · simp only [resolve, hg]
    simp [go_sem]
  · simp [invoke, go_sem, eg]
  rw [← hB] at hown hI hIm hIx hassign hbody hdone hstop
  refine (hseq (B + 1)
    (fun i D W => ∃ D1, I i D1 W ∧ W.heap[B + 1]? = some (.loop (rc .ready none)) ∧ W.heap[B]? = some (.deferred (some [])) ∧ ∀ k, D k ↔ (D1 k ∨ k = B + 1))
    (fun W => ∃ c, Ix c W ∧ W.heap[B + 1]? = some (.loop (rc .done (some c))) ∧ W.heap[B]? = some (.deferred (some [])))
    W1 (fun k => D0 k ∨ k = B + 1) (hb0.trans hf1) ?own ?stay ?stayx ?round ?start).mono ?fin
  case own =>
    rintro i D A ⟨D1, hi, hl, hk, hd⟩ k hDk
    rcases (hd k).1 hDk with h | h
    · exact ⟨(hown i D1 A hi k h).1, (hown i D1 A hi k h).2.1⟩
    · subst h
      exact ⟨(Array.getElem?_eq_some_iff.1 hl).1, fun h => by have h1 := hR _ h; have h2 := hb0.size; rw [← hB] at h2; omega⟩
  case stay =>
    rintro i D A C ⟨D1, hi, hl, hk, hd⟩ hf
    have hl' := (Array.getElem?_eq_some_iff.1 hl).1
    refine ⟨D1, hI i D1 A C hi (hf.mono (fun k _ h => ⟨by omega, fun h' => h.2 ((hd k).2 (.inl h'))⟩)), (hf.block _ hl' (by omega)).trans hl, (hf.block _ (by omega) (by omega)).trans hk, hd⟩
  case stayx =>
    rintro A C ⟨c, hc, hl, hk⟩ hf
    have hl' := (Array.getElem?_eq_some_iff.1 hl).1
    exact ⟨c, hIx c A C hc (hf.mono (fun k _ h => h.elim)), (hf.block _ hl' (fun h => h)).trans hl, (hf.block _ (by omega) (fun h => h)).trans hk⟩
  case start =>
    exact ⟨D0, hI 0 D0 w W1 h0 (hf1.mono (fun k _ h => h.elim)), hL1, hK1, fun k => Iff.rfl⟩
  case fin =>
    rintro e W2 ⟨⟨v, rfl⟩, (⟨D, D1, hi, hl, hk, hd⟩ | ⟨c, hc, hl, hk⟩)⟩
    · refine ⟨none, _, by have h := run_endLoop (P := P) hl (by rw [hrc]; simp); rw [hrc] at h; exact h, hdone D1 _ (hI _ _ _ _ hi (Fr.putObj _ _ _ _ ⟨by omega, fun h => by have := hown _ _ _ hi _ h; omega⟩)) ((World.putObj_heap_other (by omega)).trans hk)⟩
    · exact ⟨some c, _, by have h := run_endLoop (P := P) hl (by rw [hrc]; simp); rw [hrc] at h; exact h, hstop c _ (hIx c _ _ hc (Fr.putObj _ _ _ _ rfl)) ((World.putObj_heap_other (by omega)).trans hk)⟩
  case round =>
    rintro i x va D W hx henc ⟨D1, hi, hl, hk, hd⟩
    have hlt : B + 1 < W.heap.size := (Array.getElem?_eq_some_iff.1 hl).1
    have hy := run_yield (P := P) (args := va) hl (by rw [hrc]; exact hps i x va W henc)
    rw [hrc] at hy
    refine ⟨fn, _, assign, body, hy, roundIn_of_wpIn hfn (hassign _ i x va D1 W _ hx henc hi (by omega) ?_)⟩
    intro a' W' him hfa
    have hl1 := (hfa.block _ hlt (fun h => h)).trans hl
    have hlt1 : B + 1 < W'.heap.size := (Array.getElem?_eq_some_iff.1 hl1).1
    have hk1 := (hfa.block B (by omega) (fun h => h)).trans hk
    refine ⟨_, run_beginRound hl1 (by rw [hrc]), ?_⟩
    obtain ⟨W2, hW2⟩ : ∃ W2, W2 = W'.putObj (B + 1) (.loop { rc .ready none with state := .busy }) := ⟨_, rfl⟩
    rw [← hW2]
    have hl2 : W2.heap[B + 1]? = some (.loop { rc .ready none with state := .busy }) := by rw [hW2]; exact World.putObj_heap_same hlt1
    have hk2 : W2.heap[B]? = some (.deferred (some [])) := by rw [hW2]; exact (World.putObj_heap_other (by omega)).trans hk1
    have hfp : Fr (fun k => k = B + 1) W' W2 := by rw [hW2]; exact Fr.putObj _ _ _ _ rfl
    have hnd : ∀ k, k = B ∨ k = B + 1 → ¬ D1 k := fun k hk h => by have := hown _ _ _ hi _ h; omega
    have fin : ∀ (jump : Option Code) (W3 : World), Fr D1 W2 W3 →
        (Instr.endRound (B + 1) jump).run P W3 = .ok (.bool jump.isNone) (W3.putObj (B + 1) (.loop (rc (if jump.isNone then .ready else .done) jump))) ∧
        (W3.putObj (B + 1) (.loop (rc (if jump.isNone then .ready else .done) jump))).heap[B + 1]? = some (.loop (rc (if jump.isNone then .ready else .done) jump)) ∧
        (W3.putObj (B + 1) (.loop (rc (if jump.isNone then .ready else .done) jump))).heap[B]? = some (.deferred (some [])) := fun jump W3 h3 => by
      have hl3 := (h3.block _ (Array.getElem?_eq_some_iff.1 hl2).1 (hnd _ (.inr rfl))).trans hl2
      have hk3 := (h3.block B (Array.getElem?_eq_some_iff.1 hk2).1 (hnd _ (.inl rfl))).trans hk2
      have h := run_endRound (P := P) jump hl3
      rw [hrc] at h ⊢
      exact ⟨h, World.putObj_heap_same (Array.getElem?_eq_some_iff.1 hl3).1, (World.putObj_heap_other (by omega)).trans hk3⟩
    refine wpIn_mono (hbody _ i x a' D1 W2 hx (hIm _ _ _ _ _ _ him hfp) (by have := (Array.getElem?_eq_some_iff.1 hl2).1; omega)) ?_
    rintro e a3 W3 hp
    cases e with
    | normal =>
      obtain ⟨D2, hi3, h3, hd3⟩ := hp
      obtain ⟨hr, hl4, hk4⟩ := fin none W3 h3
      refine ⟨_, _, hr, .inl ⟨rfl, fun k => D2 k ∨ k = B + 1, ⟨D2, hI _ _ _ _ hi3 (Fr.putObj _ _ _ _ ⟨by omega, fun h => by have := hown _ _ _ hi3 _ h; omega⟩), hl4, hk4, fun k => Iff.rfl⟩, ?_, ?_⟩⟩
      · refine (hfa.mono (fun k _ h => h.elim)).trans ((hfp.mono (fun k _ h => (hd k).2 (.inr h))).trans ((h3.mono (fun k _ h => (hd k).2 (.inl h))).trans (Fr.putObj _ _ _ _ ((hd _).2 (.inr rfl)))))
      · intro k h
        rcases h with h | h
        · rcases hd3 k h with h | h
          · exact .inl ((hd k).2 (.inl h))
          · exact .inr (Nat.le_trans (Nat.le_trans hfa.size hfp.size) h)
        · exact .inl ((hd k).2 (.inr h))
    | ret =>
      obtain ⟨hc, h3⟩ := hp
      obtain ⟨hr, hl4, hk4⟩ := fin (some .ret) W3 h3
      exact ⟨_, _, hr, .inr ⟨rfl, .ret, hIx _ _ _ hc (Fr.putObj _ _ _ _ rfl), hl4, hk4⟩⟩
    | exit id =>
      obtain ⟨hc, h3⟩ := hp
      obtain ⟨hr, hl4, hk4⟩ := fin (some (.exit id)) W3 h3
      exact ⟨_, _, hr, .inr ⟨rfl, .exit id, hIx _ _ _ hc (Fr.putObj _ _ _ _ rfl), hl4, hk4⟩⟩
    | goto t =>
      obtain ⟨hc, h3⟩ := hp
      obtain ⟨hr, hl4, hk4⟩ := fin (some (.goto t)) W3 h3
      exact ⟨_, _, hr, .inr ⟨rfl, .goto t, hIx _ _ _ hc (Fr.putObj _ _ _ _ rfl), hl4, hk4⟩⟩
    | panic ch => exact hp.elim
    | outgrown => exact hp.elim
end Go.Proofs.YtggidhgifaekbaaDoor
