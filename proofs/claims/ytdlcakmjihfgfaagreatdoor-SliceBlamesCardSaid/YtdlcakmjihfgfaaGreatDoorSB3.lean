/-
  Texts laid together (Rf, TeAll, TyRef, TySame, TyRight): what each one proves, and its conditions, stands at its head.
-/
import Derived.RangeFuncOwn
import Derived.RangeFuncCalls
import Derived.Shelf.Abstract
import Derived.Shelf.RegionOpen
import Derived.WalkKit
import Derived.OwnWalkIn
import Derived.TacticsInMore
import Derived.LoopNIn
import Derived.LoopIn
import Derived.OneCell
import Derived.Sort.CutIn
import Derived.Laws.EntriesVeiled
import Derived.Lib.Hide
import Derived.StillTailTactics
import Derived.BigQuiet
import Derived.Test.YtdlcakmjihfgfaaGreatDoorSB1
import Derived.Test.YtdlcakmjihfgfaaGreatDoorSB2
section
/-
  A range over a function whose iterator writes cells of its own: what iterator and caller promise each other (a set D of blocks is the caller's), and the law of the statement. No condition.
-/
namespace Go.Proofs.YtdlcakmjihfgfaaGreatDoor
open Go.RowKit

theorem Fr.putObj (S : Nat → Prop) (w : World) (r : Nat) (o : Obj) (h : S r) : Fr S w (w.putObj r o) :=
  ⟨rfl, rfl, rfl, by simp, fun k _ hk => World.putObj_heap_other (fun e => hk (by rw [e]; exact h))⟩
theorem room_wide_any (k : Nat) : Fence.wide.room k := fun d h => by cases h
/-- at the wide fence the figures of depth are all one -/
theorem yield_any {m : Nat} (m' : Nat) {P : Program} {l : Nat} {args : Array Value} {W : World} {R : Ending → World → Prop} (h : YieldAt Fence.wide m P l args W R) : YieldAt Fence.wide m' P l args W R := by
  obtain ⟨fn, tmps, assign, body, hy, hR⟩ := h
  exact ⟨fn, tmps, assign, body, hy, hR.1, fun c cs _ => hR.2 c cs (room_wide_any _)⟩

/-- the iterator's contract: the values xs come, one by one; what lies in R it reads; the blocks D are the caller's -/
def SeqC {α : Type} (n : Nat) (P : Program) (g : Nat) (lb : Array Value) (Enc : Nat → α → Array Value → World → Prop) (R : Nat → Prop) (xs : List α) (w : World) : Prop :=
  ∀ (l : Nat) (J : Nat → (Nat → Prop) → World → Prop) (Jx : World → Prop) (W : World) (D0 : Nat → Prop), Fr (fun _ => False) w W →
    (∀ i D A, J i D A → ∀ k, D k → k < A.heap.size ∧ ¬ R k) →
    (∀ i D A B, J i D A → Fr (fun k => W.heap.size ≤ k ∧ ¬ D k) A B → J i D B) →
    (∀ A B, Jx A → Fr (fun _ => False) A B → Jx B) →
    (∀ i x va D W1, xs[i]? = some x → Enc i x va W1 → J i D W1 → YieldAt Fence.wide n P l va W1 fun e W' =>
      (e = .returned (.bool true) ∧ ∃ D', J (i + 1) D' W' ∧ Fr D W1 W' ∧ ∀ k, D' k → D k ∨ W1.heap.size ≤ k) ∨ (e = .returned (.bool false) ∧ Jx W')) →
    J 0 D0 W →
    CallsIn Fence.wide n P g (#[.func (.yield l) #[] #[]] ++ lb) W fun e W' => (∃ v, e = .returned v) ∧ ((∃ D, J xs.length D W') ∨ Jx W')

/-- how a round's body may be left -/
def rfPost (I : Nat → (Nat → Prop) → World → Prop) (Ix : Code → World → Prop) (i : Nat) (D : Nat → Prop) (W : World) : Exit → Act → World → Prop
  | .normal, _, W' => ∃ D', I (i + 1) D' W' ∧ Fr D W W' ∧ ∀ k, D' k → D k ∨ W.heap.size ≤ k
  | .ret, _, W' => Ix .ret W' ∧ Fr D W W'
  | .exit id, _, W' => Ix (.exit id) W' ∧ Fr D W W'
  | .goto t, _, W' => Ix (.goto t) W' ∧ Fr D W W'
  | .panic _, _, _ => False
  | .outgrown, _, _ => False

theorem wpIn_range_c {α : Type} {n : Nat} {P : Program} {g : Operand} {ps : Array Tmp} {assign body : Code} {Q : Exit → Act → World → Prop} {a : Act} {w : World}
    {gf : Nat} {lb : Array Value} (hg : a.eval g = .func (.func gf) #[] lb) (eg : ∀ args w, (callFunc gf args).run P w = .ok (.enter gf args) w)
    {Enc : Nat → α → Array Value → World → Prop} {R : Nat → Prop} {xs : List α} {w0 : World} (hseq : SeqC (n - 1) P gf lb Enc R xs w0) (hR : ∀ k, R k → k < w0.heap.size) (hb0 : Fr (fun _ => False) w0 w) (hps : ∀ i x va W, Enc i x va W → va.size = ps.size)
    (I : Nat → (Nat → Prop) → World → Prop) (Im : Nat → α → Act → (Nat → Prop) → World → Prop) (Ix : Code → World → Prop) (D0 : Nat → Prop)
    (hown : ∀ i D A, I i D A → ∀ k, D k → k < A.heap.size ∧ ¬ R k ∧ (k < w.heap.size ∨ w.heap.size + 2 ≤ k))
    (hI : ∀ i D A B, I i D A → Fr (fun k => w.heap.size ≤ k ∧ ¬ D k) A B → I i D B)
    (hIm : ∀ i x a' D A B, Im i x a' D A → Fr (fun k => k = w.heap.size + 1) A B → Im i x a' D B)
    (hIx : ∀ c A B, Ix c A → Fr (fun k => k = w.heap.size + 1) A B → Ix c B)
    (h0 : I 0 D0 w)
    (hassign : ∀ (l i : Nat) (x : α) (va : Array Value) (D : Nat → Prop) (W : World) (K : Act → World → Prop), xs[i]? = some x → Enc i x va W → I i D W → w.heap.size + 2 ≤ W.heap.size → (∀ a' W', Im i x a' D W' → Fr (fun _ => False) W W' → K a' W') →
      assign.wpIn (Fence.wide.inRound l) (n - 1) P (Exit.then K (fun _ _ _ => False)) { tmps := (ps.zip va).foldl (fun t (p, v) => t.setIfInBounds p v) a.tmps, defers := [] } W)
    (hbody : ∀ (l i : Nat) (x : α) (a' : Act) (D : Nat → Prop) (W : World), xs[i]? = some x → Im i x a' D W → w.heap.size + 2 ≤ W.heap.size → body.wpIn (Fence.wide.inRound l) (n - 1) P (rfPost I Ix i D W) a' W)
    (hdone : ∀ (D : Nat → Prop) (W : World), I xs.length D W → W.heap[w.heap.size]? = some (.deferred (some [])) → Q .normal { a with defers := { target := .collected w.heap.size, args := #[] } :: a.defers } W)
    (hstop : ∀ (c : Code) (W : World), Ix c W → W.heap[w.heap.size]? = some (.deferred (some [])) → c.wpIn Fence.wide n P Q { a with defers := { target := .collected w.heap.size, args := #[] } :: a.defers } W) :
    (Code.rangeFunc g ps assign body).wpIn Fence.wide n P Q a w := by
  refine wpIn_rangeFunc ?_
  intro fn hfn
  change ∃ l mark w₁ d w₁' f args w₂, (Instr.enterLoop fn a.tmps ps assign body none).run P w = _ ∧ _
  obtain ⟨B, hB⟩ : ∃ B, B = w.heap.size := ⟨_, rfl⟩
  obtain ⟨rc, hrc⟩ : ∃ rc : LoopState → Option Code → Loop, rc = fun st pe => { state := st, pending := pe, fn, tmps := a.tmps, params := ps, assign, body, defers := w.heap.size } := ⟨_, rfl⟩
  obtain ⟨W1, hW1⟩ : ∃ W1, W1 = (w.alloc (.deferred (some []))).alloc (.loop (rc .ready none)) := ⟨_, rfl⟩
  have hf1 : Fr (fun _ => False) w W1 := by rw [hW1]; exact (Fr.alloc _ _ _).trans (Fr.alloc _ _ _)
  have hs1 : W1.heap.size = B + 2 := by rw [hW1, hB]; simp
  have hL1 : W1.heap[B + 1]? = some (.loop (rc .ready none)) := by
    have h := World.alloc_heap_new (w.alloc (.deferred (some []))) (.loop (rc .ready none))
    rw [World.size_alloc] at h
    rw [hW1, hB]; exact h
  have hK1 : W1.heap[B]? = some (.deferred (some [])) := by
    rw [hW1, hB]; exact ((Fr.alloc (fun _ => False) (w.alloc (.deferred (some []))) _).block w.heap.size (by simp) (fun h => h)).trans (World.alloc_heap_new w _)
  refine ⟨B + 1, [{ target := .collected B, args := #[] }], W1, { target := .fn (.func gf) lb, args := #[.func (.yield (B + 1)) #[] #[]] }, W1, gf, #[.func (.yield (B + 1)) #[] #[]] ++ lb, W1, ?_, ?_, fun _ _ => trivial, ?_, fun h => by simp [Fence.wide] at h, ?_⟩
  · rw [hW1, hrc, hB]; exact run_enterLoop_outer _ _ _ _ _
  · simp only [resolve, hg]
    simp [go_sem]
  · simp [invoke, go_sem, eg]
  rw [← hB] at hown hI hIm hIx hassign hbody hdone hstop
  refine (hseq (B + 1)
    (fun i D W => ∃ D1, I i D1 W ∧ W.heap[B + 1]? = some (.loop (rc .ready none)) ∧ W.heap[B]? = some (.deferred (some [])) ∧ ∀ k, D k ↔ (D1 k ∨ k = B + 1))
    (fun W => ∃ c, Ix c W ∧ W.heap[B + 1]? = some (.loop (rc .done (some c))) ∧ W.heap[B]? = some (.deferred (some [])))
    W1 (fun k => D0 k ∨ k = B + 1) (hb0.trans hf1) ?own ?stay ?stayx ?round ?start).mono ?fin
  case own =>
    rintro i D A ⟨D1, hi, hl, hk, hd⟩ k hDk
    rcases (hd k).1 hDk with h | h
    · exact ⟨(hown i D1 A hi k h).1, (hown i D1 A hi k h).2.1⟩
    · subst h
      exact ⟨(Array.getElem?_eq_some_iff.1 hl).1, fun h => by have h1 := hR _ h; have h2 := hb0.size; rw [← hB] at h2; omega⟩
  case stay =>
    rintro i D A C ⟨D1, hi, hl, hk, hd⟩ hf
    have hl' := (Array.getElem?_eq_some_iff.1 hl).1
    refine ⟨D1, hI i D1 A C hi (hf.mono (fun k _ h => ⟨by omega, fun h' => h.2 ((hd k).2 (.inl h'))⟩)), (hf.block _ hl' (by omega)).trans hl, (hf.block _ (by omega) (by omega)).trans hk, hd⟩
  case stayx =>
    rintro A C ⟨c, hc, hl, hk⟩ hf
    have hl' := (Array.getElem?_eq_some_iff.1 hl).1
    exact ⟨c, hIx c A C hc (hf.mono (fun k _ h => h.elim)), (hf.block _ hl' (fun h => h)).trans hl, (hf.block _ (by omega) (fun h => h)).trans hk⟩
  case start =>
    exact ⟨D0, hI 0 D0 w W1 h0 (hf1.mono (fun k _ h => h.elim)), hL1, hK1, fun k => Iff.rfl⟩
  case fin =>
    rintro e W2 ⟨⟨v, rfl⟩, (⟨D, D1, hi, hl, hk, hd⟩ | ⟨c, hc, hl, hk⟩)⟩
    · refine ⟨none, _, by have h := run_endLoop (P := P) hl (by rw [hrc]; simp); rw [hrc] at h; exact h, hdone D1 _ (hI _ _ _ _ hi (Fr.putObj _ _ _ _ ⟨by omega, fun h => by have := hown _ _ _ hi _ h; omega⟩)) ((World.putObj_heap_other (by omega)).trans hk)⟩
    · exact ⟨some c, _, by have h := run_endLoop (P := P) hl (by rw [hrc]; simp); rw [hrc] at h; exact h, hstop c _ (hIx c _ _ hc (Fr.putObj _ _ _ _ rfl)) ((World.putObj_heap_other (by omega)).trans hk)⟩
  case round =>
    rintro i x va D W hx henc ⟨D1, hi, hl, hk, hd⟩
    have hlt : B + 1 < W.heap.size := (Array.getElem?_eq_some_iff.1 hl).1
    have hy := run_yield (P := P) (args := va) hl (by rw [hrc]; exact hps i x va W henc)
    rw [hrc] at hy
    refine ⟨fn, _, assign, body, hy, roundIn_of_wpIn hfn (hassign _ i x va D1 W _ hx henc hi (by omega) ?_)⟩
    intro a' W' him hfa
    have hl1 := (hfa.block _ hlt (fun h => h)).trans hl
    have hlt1 : B + 1 < W'.heap.size := (Array.getElem?_eq_some_iff.1 hl1).1
    have hk1 := (hfa.block B (by omega) (fun h => h)).trans hk
    refine ⟨_, run_beginRound hl1 (by rw [hrc]), ?_⟩
    obtain ⟨W2, hW2⟩ : ∃ W2, W2 = W'.putObj (B + 1) (.loop { rc .ready none with state := .busy }) := ⟨_, rfl⟩
    rw [← hW2]
    have hl2 : W2.heap[B + 1]? = some (.loop { rc .ready none with state := .busy }) := by rw [hW2]; exact World.putObj_heap_same hlt1
    have hk2 : W2.heap[B]? = some (.deferred (some [])) := by rw [hW2]; exact (World.putObj_heap_other (by omega)).trans hk1
    have hfp : Fr (fun k => k = B + 1) W' W2 := by rw [hW2]; exact Fr.putObj _ _ _ _ rfl
    have hnd : ∀ k, k = B ∨ k = B + 1 → ¬ D1 k := fun k hk h => by have := hown _ _ _ hi _ h; omega
    have fin : ∀ (jump : Option Code) (W3 : World), Fr D1 W2 W3 →
        (Instr.endRound (B + 1) jump).run P W3 = .ok (.bool jump.isNone) (W3.putObj (B + 1) (.loop (rc (if jump.isNone then .ready else .done) jump))) ∧
        (W3.putObj (B + 1) (.loop (rc (if jump.isNone then .ready else .done) jump))).heap[B + 1]? = some (.loop (rc (if jump.isNone then .ready else .done) jump)) ∧
        (W3.putObj (B + 1) (.loop (rc (if jump.isNone then .ready else .done) jump))).heap[B]? = some (.deferred (some [])) := fun jump W3 h3 => by
      have hl3 := (h3.block _ (Array.getElem?_eq_some_iff.1 hl2).1 (hnd _ (.inr rfl))).trans hl2
      have hk3 := (h3.block B (Array.getElem?_eq_some_iff.1 hk2).1 (hnd _ (.inl rfl))).trans hk2
      have h := run_endRound (P := P) jump hl3
      rw [hrc] at h ⊢
      exact ⟨h, World.putObj_heap_same (Array.getElem?_eq_some_iff.1 hl3).1, (World.putObj_heap_other (by omega)).trans hk3⟩
    refine wpIn_mono (hbody _ i x a' D1 W2 hx (hIm _ _ _ _ _ _ him hfp) (by have := (Array.getElem?_eq_some_iff.1 hl2).1; omega)) ?_
    rintro e a3 W3 hp
    cases e with
    | normal =>
      obtain ⟨D2, hi3, h3, hd3⟩ := hp
      obtain ⟨hr, hl4, hk4⟩ := fin none W3 h3
      refine ⟨_, _, hr, .inl ⟨rfl, fun k => D2 k ∨ k = B + 1, ⟨D2, hI _ _ _ _ hi3 (Fr.putObj _ _ _ _ ⟨by omega, fun h => by have := hown _ _ _ hi3 _ h; omega⟩), hl4, hk4, fun k => Iff.rfl⟩, ?_, ?_⟩⟩
      · refine (hfa.mono (fun k _ h => h.elim)).trans ((hfp.mono (fun k _ h => (hd k).2 (.inr h))).trans ((h3.mono (fun k _ h => (hd k).2 (.inl h))).trans (Fr.putObj _ _ _ _ ((hd _).2 (.inr rfl)))))
      · intro k h
        rcases h with h | h
        · rcases hd3 k h with h | h
          · exact .inl ((hd k).2 (.inl h))
          · exact .inr (Nat.le_trans (Nat.le_trans hfa.size hfp.size) h)
        · exact .inl ((hd k).2 (.inr h))
    | ret =>
      obtain ⟨hc, h3⟩ := hp
      obtain ⟨hr, hl4, hk4⟩ := fin (some .ret) W3 h3
      exact ⟨_, _, hr, .inr ⟨rfl, .ret, hIx _ _ _ hc (Fr.putObj _ _ _ _ rfl), hl4, hk4⟩⟩
    | exit id =>
      obtain ⟨hc, h3⟩ := hp
      obtain ⟨hr, hl4, hk4⟩ := fin (some (.exit id)) W3 h3
      exact ⟨_, _, hr, .inr ⟨rfl, .exit id, hIx _ _ _ hc (Fr.putObj _ _ _ _ rfl), hl4, hk4⟩⟩
    | goto t =>
      obtain ⟨hc, h3⟩ := hp
      obtain ⟨hr, hl4, hk4⟩ := fin (some (.goto t)) W3 h3
      exact ⟨_, _, hr, .inr ⟨rfl, .goto t, hIx _ _ _ hc (Fr.putObj _ _ _ _ rfl), hl4, hk4⟩⟩
    | panic ch => exact hp.elim
    | outgrown => exact hp.elim
end Go.Proofs.YtdlcakmjihfgfaaGreatDoor
end
section
/-
  The iterator over all terms of a term: what comes, in order. Conditions: the term lies in memory as told; there are few of them.
-/
namespace Go.Proofs.YtdlcakmjihfgfaaGreatDoor
open Go.RowKit Go.Shelf

attribute [local go_sem] Oper.semAt_some

/-- a term as the iterator hands it: what lies in it lies in R -/
def EncT (R : Nat → Prop) (i : Nat) (x : Nd × To) (va : Array Value) (W : World) : Prop :=
  ∃ o1 l1 c1 o2 l2 c2, va = #[.int .i64 (i : Int), tmv x.1 o1 l1 c1 o2 l2 c2] ∧ SlcIn R W o1 l1 x.1.tp ∧ TSlc R W o2 l2 x.2
/-- the iterator's own three boxes: the number, yield, itself -/
structure Boxes (nb yb wb l : Nat) (W : World) (i : Nat) : Prop where
  n : W.heap[nb]? = some (.cells #[.int .i64 (i : Int)] 3 (0, 0))
  y : W.heap[yb]? = some (.cells #[.func (.yield l) #[] #[]] 77 (0, 0))
  w : W.heap[wb]? = some (.cells #[.func (.func 48) #[] #[.pointer (some ⟨nb, 0, none⟩), .pointer (some ⟨yb, 0, none⟩), .pointer (some ⟨wb, 0, none⟩)]] 31 (0, 0))
theorem Boxes.fr {nb yb wb l : Nat} {S : Nat → Prop} {W W' : World} {i : Nat} (h : Boxes nb yb wb l W i) (hf : Fr S W W') (h1 : ¬ S nb) (h2 : ¬ S yb) (h3 : ¬ S wb) : Boxes nb yb wb l W' i :=
  ⟨(hf.block _ (lt_of_block h.n) h1).trans h.n, (hf.block _ (lt_of_block h.y) h2).trans h.y, (hf.block _ (lt_of_block h.w) h3).trans h.w⟩
theorem cnt_step : ∀ (f : To) (m : Nat) (h : Nd) (qs : To), f.get m = some (h, qs) → (f.drop m).size = 1 + qs.size + (f.drop (m + 1)).size ∧ (f.drop m).size ≤ f.size ∧ ∀ j x, (To.cons h qs .nil).flat[j]? = some x → f.flat[f.size - (f.drop m).size + j]? = some x
  | .nil, m, h, qs, e => by simp [To.get] at e
  | .cons h' ps r, 0, h, qs, e => by
    simp [To.get] at e
    obtain ⟨rfl, rfl⟩ := e
    refine ⟨by simp [To.drop, To.drop_zero, To.size]; omega, by simp [To.drop], fun j x hj => ?_⟩
    have hlt := (List.getElem?_eq_some_iff.1 hj).1
    simp only [To.drop, Nat.sub_self, Nat.zero_add]
    rw [show (To.cons h' ps r).flat = (To.cons h' ps .nil).flat ++ r.flat from by simp [To.flat], List.getElem?_append_left hlt]
    exact hj
  | .cons h' ps r, m + 1, h, qs, e => by
    obtain ⟨e1, e2, e3⟩ := cnt_step r m h qs e
    simp only [To.drop]
    refine ⟨e1, by simp only [To.size]; omega, fun j x hj => ?_⟩
    have h3 := e3 j x hj
    rw [show (To.cons h' ps r).flat = ((h', ps) :: ps.flat) ++ r.flat from by simp [To.flat], List.getElem?_append_right (by simp [To.size, To.flat_length]; omega)]
    rw [← h3]
    congr 1
    simp [To.size, To.flat_length]; omega

section
variable (R : Nat → Prop) (l nb yb wb L0 : Nat) (xs : List (Nd × To)) (J : Nat → (Nat → Prop) → World → Prop) (Jx : World → Prop)

def TWalk (h : Nd) (ps : To) : Prop := ∀ (n i : Nat) (D : Nat → Prop) (W : World) (o1 : Option Addr) (l1 c1 : Nat) (o2 : Option Addr) (l2 c2 : Nat), J i D W → Boxes nb yb wb l W i → SlcIn R W o1 l1 h.tp → TSlc R W o2 l2 ps →
  (∀ k, D k → k ≠ nb ∧ k ≠ yb ∧ k ≠ wb) → (∀ j x, (To.cons h ps .nil).flat[j]? = some x → xs[i + j]? = some x) → i + ps.size + 1 ≤ 1000000 →
  CallsIn Fence.wide n Tryz.prog 48 #[tmv h o1 l1 c1 o2 l2 c2, .pointer (some ⟨nb, 0, none⟩), .pointer (some ⟨yb, 0, none⟩), .pointer (some ⟨wb, 0, none⟩)] W fun e W' =>
    (e = .returned (.bool true) ∧ ∃ D', J (i + ps.size + 1) D' W' ∧ Boxes nb yb wb l W' (i + ps.size + 1) ∧ Fr (fun k => D k ∨ k = nb) W W' ∧ ∀ k, D' k → D k ∨ W.heap.size ≤ k) ∨ (e = .returned (.bool false) ∧ Jx W')
end
set_option maxHeartbeats 4000000 in
set_option maxRecDepth 100000 in
theorem walk_any (R : Nat → Prop) (l nb yb wb L0 : Nat) (xs : List (Nd × To)) (J : Nat → (Nat → Prop) → World → Prop) (Jx : World → Prop)
    (hRb : ∀ k, R k → k < L0) (hnb : L0 ≤ nb ∧ L0 ≤ yb ∧ L0 ≤ wb ∧ nb ≠ yb ∧ nb ≠ wb)
    (hown : ∀ i D A, J i D A → ∀ k, D k → k < A.heap.size ∧ ¬ R k)
    (hst : ∀ i D A B, J i D A → Fr (fun k => L0 ≤ k ∧ ¬ D k) A B → J i D B)
    (hY : ∀ m i x va D W1, xs[i]? = some x → EncT R i x va W1 → J i D W1 → YieldAt Fence.wide m Tryz.prog l va W1 fun e W' =>
      (e = .returned (.bool true) ∧ ∃ D', J (i + 1) D' W' ∧ Fr D W1 W' ∧ ∀ k, D' k → D k ∨ W1.heap.size ≤ k) ∨ (e = .returned (.bool false) ∧ Jx W'))
    (h : Nd) (ps : To) : TWalk R l nb yb wb xs J Jx h ps := by
  refine To.ind' (T := TWalk R l nb yb wb xs J Jx) ?_ h ps
  intro h ps ih n i D W o1 l1 c1 o2 l2 c2 hJ hB hs ht hD hx hz
  have HS := Lib.hid hs
  have HT := Lib.hid ht
  have IH := Lib.hid ih
  have HD := Lib.hid hD
  have HX := Lib.hid hx
  have hmx := ht.2.1
  have HL := Lib.hid ht.1
  have hlen := To.length_le ps
  unfold maxLen at hmx
  -- the box of t, then the number raised
  obtain ⟨W1, hW1⟩ : ∃ W1, W1 = W.alloc (.cells (cells9 h o1 l1 c1 o2 l2 c2) 29) := ⟨_, rfl⟩
  obtain ⟨tb, htb⟩ : ∃ tb, tb = W.heap.size := ⟨_, rfl⟩
  have hq1 : Fr (fun _ => False) W W1 := by rw [hW1]; exact Fr.alloc _ _ _
  have hb1 : Boxes nb yb wb l W1 i := hB.fr hq1 (fun h => h) (fun h => h) (fun h => h)
  have ht1 : W1.heap[tb]? = some (.cells (cells9 h o1 l1 c1 o2 l2 c2) 29 (0, 0)) := by rw [hW1, htb]; exact heap_alloc_new _ _
  have hnt : tb ≠ nb ∧ tb ≠ yb ∧ tb ≠ wb := ⟨fun e => by have := lt_of_block hB.n; omega, fun e => by have := lt_of_block hB.y; omega, fun e => by have := lt_of_block hB.w; omega⟩
  obtain ⟨W2, hW2⟩ : ∃ W2, W2 = W1.setCell ⟨nb, 0, none⟩ (.int .i64 ((i : Int) + 1)) := ⟨_, rfl⟩
  have hq2 : Fr (fun k => k = nb) W1 W2 := by rw [hW2]; exact Fr.setCell _ _ _ _ rfl
  have hb2 : Boxes nb yb wb l W2 (i + 1) := ⟨by rw [hW2]; exact one_setCell hb1.n, (hq2.block _ (lt_of_block hb1.y) (fun e => hnb.2.2.2.1 e.symm)).trans hb1.y, (hq2.block _ (lt_of_block hb1.w) (fun e => hnb.2.2.2.2 e.symm)).trans hb1.w⟩
  have ht2 := (hq2.block _ (lt_of_block ht1) hnt.1).trans ht1
  have hJ2 : J i D W2 := hst i D W W2 hJ ((hq1.mono (fun k _ h => h.elim)).trans (hq2.mono (fun k _ e => ⟨by omega, fun hd => (hD k hd).1 (by omega)⟩)))
  have hs2 : SlcIn R W2 o1 l1 h.tp := (hs.fr hq1 (fun k _ hk => ⟨hk, fun h => h⟩)).fr hq2 (fun k _ hk => ⟨hk, fun e => by have := hRb k hk; omega⟩)
  have ht3 : TSlc R W2 o2 l2 ps := (ht.fr hq1 (fun k _ hk => ⟨hk, fun h => h⟩)).fr hq2 (fun k _ hk => ⟨hk, fun e => by have := hRb k hk; omega⟩)
  have hsz1 : W1.heap.size = tb + 1 := by rw [hW1, htb]; simp
  have hsz2 : W1.heap.size ≤ W2.heap.size := hq2.size
  have HSZ := Lib.hid (And.intro hsz1 hsz2)
  have hy := fun m => hY m i (h, ps) #[.int .i64 (i : Int), tmv h o1 l1 c1 o2 l2 c2] D W2 (by have := hx 0 (h, ps) rfl; simpa using this) ⟨o1, l1, c1, o2, l2, c2, rfl, hs2, ht3⟩ hJ2
  obtain ⟨fn, tmps, assign, body, hyr, hR⟩ := hy (n - 1)
  have HR := Lib.hid hR
  have HW12 : Hid (Fr (fun k => D k ∨ k = nb) W W2) := (hq1.mono (fun k _ h => h.elim)).trans (hq2.mono (fun k _ e => .inr e))
  have cn1 := cell_of_one hb1.n
  have zn1 := free_of_one hb1.n
  have cy2 := cell_of_one hb2.y
  have cw2 := cell_of_one hb2.w
  have cn2 := cell_of_one hb2.n
  have HB2 := Lib.hid hb2
  have HT2 := Lib.hid ht2
  have HJ2 := Lib.hid hJ2
  obtain ⟨a0, a1, a2, a3, a4, a5, a6, a7, a8⟩ := cells9_block ht2
  have HW1 := Lib.hid hW1
  have HW2 := Lib.hid hW2
  have hW2' : W2 = (W.alloc (.cells (cells9 h o1 l1 c1 o2 l2 c2) 29)).setCell ⟨nb, 0, none⟩ (.int .i64 ((i : Int) + 1)) := by rw [hW2, hW1]
  rw [hW1] at cn1 zn1
  have HTS := Lib.hid ht3
  have HTL : Hid (tb < W2.heap.size) := lt_of_block ht2
  have HDW : Hid (∀ k, D k → k < tb) := fun k hk => by rw [htb]; exact (hown _ _ _ hJ k hk).1
  have HST := Lib.hid hst
  clear hs ht ih hD hx hJ hB hq1 hq2 hb1 ht1 hb2 ht2 hJ2 hs2 ht3 hy hR hY hst hsz1 hsz2
  unfold tmv
  refine callsIn_of_wp Tryz.func48 rfl trivial ?_ rfl
  simp only [Tryz.ntmps48, List.size_toArray, List.length_cons, List.length_nil, Nat.reduceAdd, Nat.reduceSub, Array.replicate_succ, Array.replicate_zero, List.push_toArray, List.append_toArray, List.nil_append, List.cons_append]
  gi_upto_region 2 with fail
  change Code.wpIn _ _ _ _ _ _ ((W.alloc (.cells (cells9 h o1 l1 c1 o2 l2 c2) 29)).setCell ⟨nb, 0, none⟩ (.int .i64 ((i : Int) + 1)))
  rw [← hW2', ← htb]
  clear hW2' hW2 hW1 htb cn1 zn1
  unfold tmv at hyr
  gi_wp2
  refine ⟨fun h => (by cases h), HR.out.mono ?_⟩
  rintro e W3 (⟨rfl, D3, hJ3, hf3, hd3⟩ | ⟨rfl, hx3⟩)
  · have hb3 := HB2.out.fr hf3 (fun hk => (HD.out _ hk).1 rfl) (fun hk => (HD.out _ hk).2.1 rfl) (fun hk => (HD.out _ hk).2.2 rfl)
    have htD : ¬ D tb := fun hk => by have := (hown _ _ _ HJ2.out _ hk).1; have := HTL.out; have := HDW.out _ hk; omega
    have ht3 := (hf3.block _ (lt_of_block HT2.out) htD).trans HT2.out
    have HB3 := Lib.hid hb3
    have HT3 := Lib.hid ht3
    have HJ3 := Lib.hid hJ3
    have HF3 := Lib.hid hf3
    have HD3 := Lib.hid hd3
    have HS3 : Hid (TSlc R W3 o2 l2 ps) := HTS.out.fr hf3 (fun k _ hk => ⟨hk, fun hd => (hown _ _ _ HJ2.out k hd).2 hk⟩)
    clear a0 a1 a2 a3 a4 a5 a6 a7 a8 cn2 cy2 cw2
    obtain ⟨a0, a1, a2, a3, a4, a5, a6, a7, a8⟩ := cells9_block ht3
    clear hJ3 hf3 hd3 hb3 ht3
    gi_wp2
    gi_loopw [19] (fun t wr => ∃ (m : Nat) (D' : Nat → Prop), t = .int .i64 m ∧ m ≤ l2 ∧ J (i + 1 + (ps.size - (ps.drop m).size)) D' wr ∧ Boxes nb yb wb l wr (i + 1 + (ps.size - (ps.drop m).size)) ∧ Fr (fun k => D3 k ∨ k = nb ∨ W3.heap.size ≤ k) W3 wr ∧ ∀ k, D' k → D3 k ∨ W3.heap.size ≤ k) (fun t wr => l2 - (intOf t).toNat)
    case atStart => exact ⟨0, D3, rfl, Nat.zero_le _, by rw [To.drop_zero, Nat.sub_self]; exact HJ3.out, by rw [To.drop_zero, Nat.sub_self]; exact HB3.out, Fr.refl _ _, fun k hk => .inl hk⟩
    case round =>
      obtain ⟨m, D', rfl, hm, hj, hb, hf, hd⟩ := hrel
      by_cases hlt : m < l2
      · have hlt' : (m : Int) < l2 := by omega
        have hts : TSlc R wr o2 l2 ps := HS3.out.fr hf (fun k hk hr => ⟨hr, fun hs => by
          rcases hs with hs | hs | hs
          · exact (hown _ _ _ HJ3.out k hs).2 hr
          · have := hRb k hr; omega
          · omega⟩)
        obtain ⟨b, off, hd1, qs, p1, m1, d1, p2, m2, d2, rfl, hdr, hg, hRbb, hc9, hs1, ht1⟩ := hts.nth hlt
        obtain ⟨q1, q2, q3⟩ := cnt_step ps m hd1 qs hg
        obtain ⟨W4, hW4⟩ : ∃ W4, W4 = wr.alloc (.cells (cells9 hd1 p1 m1 d1 p2 m2 d2) 29) := ⟨_, rfl⟩
        have hq4 : Fr (fun _ => False) wr W4 := by rw [hW4]; exact Fr.alloc _ _ _
        have hc4 : Cells9 W4 wr.heap.size 0 hd1 p1 m1 d1 p2 m2 d2 := by rw [hW4]; exact cells9_new _ _ _ _ _ _ _ _ _
        have hnd : ∀ k, D' k → k ≠ nb ∧ k ≠ yb ∧ k ≠ wb := fun k hk => by
          have e1 := lt_of_block HB3.out.n
          have e2 := lt_of_block HB3.out.y
          have e3 := lt_of_block HB3.out.w
          rcases hd k hk with h | h
          · rcases HD3.out k h with h | h
            · exact HD.out k h
            · have f1 := lt_of_block HB2.out.n
              have f2 := lt_of_block HB2.out.y
              have f3 := lt_of_block HB2.out.w
              omega
          · omega
        have HC := Lib.hid (IH.out m hd1 qs hg (n - 1) (i + 1 + (ps.size - (ps.drop m).size)) D' W4 p1 m1 d1 p2 m2 d2 (HST.out _ _ _ _ hj (hq4.mono (fun k _ h => h.elim))) (hb.fr hq4 (fun h => h) (fun h => h) (fun h => h)) (hs1.fr hq4 (fun k _ hk => ⟨hk, fun h => h⟩)) (ht1.fr hq4 (fun k _ hk => ⟨hk, fun h => h⟩)) hnd
          (fun j x hj => by
            have h1 := q3 j x hj
            have h2 := HX.out (1 + (ps.size - (ps.drop m).size) + j) x (by
              rw [show 1 + (ps.size - (ps.drop m).size) + j = (ps.size - (ps.drop m).size + j) + 1 from by omega]
              simpa [To.flat] using h1)
            rw [← h2]; congr 1; omega) (by omega))
        have HEQ : Hid (i + 1 + (ps.size - (ps.drop m).size) + qs.size + 1 = i + 1 + (ps.size - (ps.drop (m + 1)).size)) := by show _ = _; have := To.size_drop ps (m + 1); omega
        have cw4 := cell_of_one (hb.fr hq4 (fun h => h) (fun h => h) (fun h => h)).w
        have HBW := Lib.hid hb
        obtain ⟨z0, z1, z2, z3, z4, z5, z6, z7, z8⟩ := hc9
        obtain ⟨y0, y1, y2, y3, y4, y5, y6, y7, y8⟩ := hc4
        have HF := Lib.hid hf
        have HDD := Lib.hid hd
        have HQ4 := Lib.hid hq4
        unfold tmv at HC
        clear hf hd hj hb hq4 q1 q2 q3 hts hdr hg hs1 ht1 hnd hRbb a0 a1 a2 a3 a4 a5 a6 a7 a8
        gi_upto_region 7 with fail
        change Code.wpIn _ _ _ _ _ _ (wr.alloc (.cells (cells9 hd1 p1 m1 d1 p2 m2 d2) 29))
        rw [← hW4]
        generalize wr.heap.size = pb at *
        clear hW4 z0 z1 z2 z3 z4 z5 z6 z7 z8
        gi_wp2
        refine ⟨trivial, fun h => (by cases h), HC.out.mono ?_⟩
        rintro e W5 (⟨rfl, D5, hj5, hb5, hf5, hd5⟩ | ⟨rfl, hx5⟩)
        · rw [HEQ.out] at hj5 hb5
          have HFF : Hid (Fr (fun k => D3 k ∨ k = nb ∨ W3.heap.size ≤ k) W3 W5) := (HF.out.trans (HQ4.out.mono (fun k _ h => h.elim))).trans (hf5.mono (fun k _ hk => by
            rcases hk with h | h
            · rcases HDD.out k h with h | h
              · exact .inl h
              · exact .inr (.inr h)
            · exact .inr (.inl h)))
          have HDF : Hid (∀ k, D5 k → D3 k ∨ W3.heap.size ≤ k) := fun k hk => by
            rcases hd5 k hk with h | h
            · exact HDD.out k h
            · have := HF.out.size; have := HQ4.out.size; exact .inr (by omega)
          have HJ5 := Lib.hid hj5
          have HB5 := Lib.hid hb5
          clear hj5 hb5 hf5 hd5
          gi_wp2
          go_roundw
          case rel => exact ⟨m + 1, D5, by go_num, by omega, HJ5.out, HB5.out, HFF.out, HDF.out⟩
          case measure => simp [intOf]; omega
        · gi_wp2
          go_ret
          exact .inr ⟨rfl, hx5⟩
      · have hlt' : ¬ (m : Int) < l2 := by omega
        have hme : ps.drop m = .nil := To.drop_end ps m (by have := HL.out; omega)
        rw [hme] at hj hb
        have HJE := Lib.hid hj
        have HBE := Lib.hid hb
        have HFE := Lib.hid hf
        have HDE := Lib.hid hd
        clear hj hb hf hd hme
        gi_wp2
        go_ret
        have h1 := HJE.out
        have h2 := HBE.out
        rw [show i + 1 + (ps.size - To.nil.size) = i + ps.size + 1 from by simp [To.size]; omega] at h1 h2
        refine .inl ⟨rfl, D', h1, h2, ?_, ?_⟩
        · have e1 := HW12.out.size
          have e2 := HF3.out.size
          refine (HW12.out.trans (HF3.out.mono (fun k _ h => .inl h))).trans' HFE.out (fun k hk h => ?_)
          rcases h with h | h | h
          · rcases HD3.out k h with h | h
            · exact .inl h
            · omega
          · exact .inr h
          · omega
        · intro k hk
          rcases HDE.out k hk with h | h
          · rcases HD3.out k h with h | h
            · exact .inl h
            · have := HW12.out.size; exact .inr (by omega)
          · have := HW12.out.size; have := HF3.out.size; exact .inr (by omega)
  · gi_wp2
    go_ret
    exact .inr ⟨rfl, hx3⟩
set_option maxHeartbeats 4000000 in
set_option maxRecDepth 100000 in
/-- the function that All hands back is an iterator over all terms, in order -/
theorem all_seq (n : Nat) (R : Nat → Prop) (h : Nd) (ps : To) (o1 : Option Addr) (l1 c1 : Nat) (o2 : Option Addr) (l2 c2 tb : Nat) (w : World) (hRw : ∀ k, R k → k < w.heap.size)
    (hb : w.heap[tb]? = some (.cells (cells9 h o1 l1 c1 o2 l2 c2) 29 (0, 0))) (hRt : R tb) (hs : SlcIn R w o1 l1 h.tp) (ht : TSlc R w o2 l2 ps) (hz : ps.size ≤ 100000) :
    SeqC n Tryz.prog 47 #[.pointer (some ⟨tb, 0, none⟩)] (EncT R) R (To.cons h ps .nil).flat w := by
  intro l J Jx W D0 hW hown hst hstx hY hJ
  obtain ⟨W2, hW2⟩ : ∃ W2, W2 = ((W.alloc (.cells #[.func (.yield l) #[] #[]] 77)).alloc (.cells #[.int .i64 0] 3)).alloc (.cells #[.nilFunc] 31) := ⟨_, rfl⟩
  obtain ⟨W3, hW3⟩ : ∃ W3, W3 = W2.setCell ⟨W.heap.size + 1 + 1, 0, none⟩ (.func (.func 48) #[] #[.pointer (some ⟨W.heap.size + 1, 0, none⟩), .pointer (some ⟨W.heap.size, 0, none⟩), .pointer (some ⟨W.heap.size + 1 + 1, 0, none⟩)]) := ⟨_, rfl⟩
  have hf2 : Fr (fun _ => False) W W2 := by rw [hW2]; exact ((Fr.alloc _ _ _).trans (Fr.alloc _ _ _)).trans (Fr.alloc _ _ _)
  have hf23 : Fr (fun k => k = W.heap.size + 1 + 1) W2 W3 := by rw [hW3]; exact Fr.setCell _ _ _ _ rfl
  have hf3 : Fr (fun _ => False) W W3 := hf2.trans' hf23 (fun k hk e => by omega)
  have hw2 : W2.heap[W.heap.size + 1 + 1]? = some (.cells #[.nilFunc] 31 (0, 0)) := by
    rw [hW2]
    have := heap_alloc_new ((W.alloc (.cells #[.func (.yield l) #[] #[]] 77)).alloc (.cells #[.int .i64 0] 3)) (.cells #[.nilFunc] 31)
    simpa using this
  have hB3 : Boxes (W.heap.size + 1) W.heap.size (W.heap.size + 1 + 1) l W3 0 := by
    refine ⟨?_, ?_, ?_⟩
    · rw [hf23.block _ (by rw [hW2]; simp) (by omega), hW2, Below.heap_alloc _ _ _ (by simp)]
      have := heap_alloc_new (W.alloc (.cells #[.func (.yield l) #[] #[]] 77)) (.cells #[.int .i64 0] 3)
      simpa using this
    · rw [hf23.block _ (by rw [hW2]; simp; omega) (by omega), hW2, Below.heap_alloc _ _ _ (by simp; omega), Below.heap_alloc _ _ _ (by simp)]
      exact heap_alloc_new W _
    · rw [hW3]
      exact one_setCell hw2
  have hle := hW.size
  have hwf := hW.trans hf3
  have hb3 := (hwf.block _ (lt_of_block hb) (fun h => h)).trans hb
  have cw2 := cell_of_one hw2
  have zw2 := free_of_one hw2
  have HC := Lib.hid (walk_any R l (W.heap.size + 1) W.heap.size (W.heap.size + 1 + 1) W.heap.size (To.cons h ps .nil).flat J Jx (fun k hk => by have := hRw k hk; omega) (by omega) hown hst
    (fun m i x va D W1 hx he hj => yield_any m (hY i x va D W1 hx he hj)) h ps (n - 1) 0 D0 W3 o1 l1 c1 o2 l2 c2 (hst 0 D0 W W3 hJ (hf3.mono (fun k _ h => h.elim))) hB3
    (hs.fr hwf (fun k _ hk => ⟨hk, fun h => h⟩)) (ht.fr hwf (fun k _ hk => ⟨hk, fun h => h⟩)) (fun k hk => by have := (hown 0 D0 W hJ k hk).1; omega) (fun j x hx => by rw [Nat.zero_add]; exact hx) (by omega))
  have HLN : Hid (0 + ps.size + 1 = (To.cons h ps .nil).flat.length) := by show _ = _; rw [To.flat_length]; simp [To.size]
  have cw := cell_of_one hB3.w
  obtain ⟨a0, a1, a2, a3, a4, a5, a6, a7, a8⟩ := cells9_block hb3
  have HBL := Lib.hid hB3
  unfold tmv at HC
  clear hb3 hB3 hs ht hY hJ hst hstx hown hb hwf hf3 hf2 hf23 hw2
  refine callsIn_of_wp Tryz.func47 rfl trivial ?_ rfl
  simp only [Tryz.ntmps47, List.size_toArray, List.length_cons, List.length_nil, Nat.reduceAdd, Nat.reduceSub, Array.replicate_succ, Array.replicate_zero, List.push_toArray, List.append_toArray, List.nil_append, List.cons_append]
  have HW3 := Lib.hid hW3
  clear hW3
  gi_upto_region 3 with fail
  rw [← hW2]
  clear hW2
  gi_upto_region 4 with fail
  rw [← HW3.out]
  clear HW3 cw2 zw2
  gi_wp2
  refine ⟨trivial, fun h => (by cases h), HC.out.mono ?_⟩
  rintro e W5 (⟨rfl, D5, hj5, hb5, hf5, hd5⟩ | ⟨rfl, hx5⟩)
  · rw [HLN.out] at hj5
    gi_wp2
    go_end0
    exact ⟨⟨_, rfl⟩, .inl ⟨D5, hj5⟩⟩
  · gi_wp2
    go_end0
    exact ⟨⟨_, rfl⟩, .inr hx5⟩
/-- All boxes the term, and hands back the iterator -/
theorem all_call (h : Nd) (o1 : Option Addr) (l1 c1 : Nat) (o2 : Option Addr) (l2 c2 : Nat) (w : World) :
    Calls Tryz.prog 26 #[tmv h o1 l1 c1 o2 l2 c2] w fun e w' => e = .returned (.func (.func 47) #[] #[.pointer (some ⟨w.heap.size, 0, none⟩)]) ∧ w' = w.alloc (.cells (cells9 h o1 l1 c1 o2 l2 c2) 29) := by
  unfold tmv
  go_enter Tryz.func26, Tryz.ntmps26
  go_wp2_with fail
  go_ret
  exact ⟨rfl, rfl⟩
end Go.Proofs.YtdlcakmjihfgfaaGreatDoor
end
section
/-
  The reference on types (Size, Depth, Same, Right, In) and the law's bound (room, Great). Conditions: the types lie in memory as told; where numbers are added up, there are few types.
-/
namespace Go.Proofs.YtdlcakmjihfgfaaGreatDoor
open Go.RowKit

theorem ret_int {k : IntKind} {a b : Int} (h : a = b) : Ending.returned (.int k a) = .returned (.int k b) := by rw [h]

/-- numbers in a row -/
def IntsAt (w : World) (o : Option Addr) (l : List Int) : Prop := ∀ i x, l[i]? = some x → ∃ b off, o = some ⟨b, off, none⟩ ∧ w.cell? ⟨b, off + i, none⟩ = some (.int .i64 x)
theorem IntsAt.stay {w w' : World} {o : Option Addr} {l : List Int} (h : IntsAt w o l) (hq : Quiet0 w w') : IntsAt w' o l := by
  intro i x hi
  obtain ⟨b, off, ho, hc⟩ := h i x hi
  exact ⟨b, off, ho, hq.at hc⟩
theorem drop_some {α : Type} {l : List α} {k : Nat} {t : α} (h : l[k]? = some t) : l.drop k = t :: l.drop (k + 1) := by
  obtain ⟨hl, rfl⟩ := List.getElem?_eq_some_iff.1 h
  exact List.drop_eq_getElem_cons hl
set_option maxHeartbeats 1000000 in
theorem refIn_any (o : Option Addr) (len cap : Nat) (l : List Int) (v : Int) (w : World) (h : IntsAt w o l) (hl : len = l.length) (hb : len ≤ 1000000) :
    Calls Tryz.prog 63 #[.slice o len cap, .int .i64 v] w fun e w' => e = .returned (.bool (inB l v)) ∧ w = w' := by
  have H := Lib.hid h
  have HL := Lib.hid hl
  clear h hl
  go_enter Tryz.func63, Tryz.ntmps63
  go_wp2_with fail
  go_loop [5] (fun t => ∃ i : Nat, t = .int .i64 i ∧ i ≤ len ∧ inB l v = inB (l.drop i) v) (fun t => len - (intOf t).toNat)
  case atStart => exact ⟨0, rfl, Nat.zero_le _, rfl⟩
  case round =>
    obtain ⟨i, rfl, hi, hc⟩ := hrel
    have HC := Lib.hid hc
    clear hc
    by_cases hlt : i < len
    · have hlt' : (i : Int) < len := by omega
      obtain ⟨x, hx⟩ : ∃ x, l[i]? = some x := ⟨_, List.getElem?_eq_getElem (by have := HL.out; omega)⟩
      obtain ⟨b, off, rfl, c⟩ := H.out i x hx
      have HD := Lib.hid (drop_some hx)
      clear hx
      cases hxv : (x == v)
      · have HX : Hid ((v == x) = false) := by
          show _ = _
          rw [beq_eq_false_iff_ne] at hxv ⊢; exact fun h => hxv h.symm
        go_wp2_with fail
        go_round
        case rel => exact ⟨i + 1, by go_num, by omega, by rw [HC.out, HD.out, inB_cons, HX.out]; rfl⟩
        case measure => simp [intOf]; omega
      · have HX : Hid (v = x) := by show _ = _; exact (beq_iff_eq.1 hxv).symm
        go_wp2_with fail
        go_ret
        exact ⟨by rw [HC.out, HD.out, inB_cons, HX.out]; simp, rfl⟩
    · have hlt' : ¬ (i : Int) < len := by omega
      go_wp2_with fail
      go_ret
      exact ⟨by rw [HC.out, List.drop_eq_nil_of_le (by have := HL.out; omega)]; rfl, rfl⟩

/-- the law's room -/
def LRoom (k n : Int) (ps : Fo) : Prop := ∀ (w : World) (o : Option Addr) (len cap : Nat) (d : Nat) (m : Int) (di : Int), di = d → Slc w o len ps → 0 ≤ m → m ≤ 100000 → d ≤ 100000 →
  Calls Tryz.prog 37 #[tyv k n o len cap, .int .i64 m, .int .i64 di] w fun e w' => e = .returned (.int .i64 (if d = 0 then -1 else Fo.room (d - 1) (m - 1) ps)) ∧ Quiet0 w w'
set_option maxHeartbeats 2000000 in
theorem room_any (k n : Int) (ps : Fo) : LRoom k n ps := by
  refine Fo.ind' (T := LRoom) ?_ k n ps
  intro k n ps ih w o len cap d m di ed hs hm0 hm1 hd1
  subst ed
  have HS := Lib.hid hs
  have IH := Lib.hid ih
  have HL := Lib.hid hs.1
  have hmx := hs.2.1
  unfold maxLen at hmx
  clear hs ih
  by_cases hd0 : d = 0
  · subst hd0
    unfold tyv
    go_enter Tryz.func37, Tryz.ntmps37
    go_wp2_with fail
    go_ret
    exact ⟨rfl, Quiet0.alloc _ _⟩
  · obtain ⟨D, hD⟩ : ∃ D, D = d - 1 := ⟨_, rfl⟩
    have hd0' : ((d : Int) == 0) = false := by simp; omega
    have hdD : d = D + 1 := by omega
    obtain ⟨res, hres⟩ : ∃ res, res = Fo.room D (m - 1) ps := ⟨_, rfl⟩
    have HRES := Lib.hid hres
    have HF : Hid ((if d = 0 then -1 else Fo.room (d - 1) (m - 1) ps) = res) := by show _ = _; rw [if_neg (by omega), ← hD, hres]
    rw [HF.out]
    have HDD := Lib.hid hdD
    have hD1 : D ≤ 100000 := by omega
    have hd1' : 1 ≤ d := by omega
    clear hres hd0 hD hdD
    unfold tyv
    go_enter Tryz.func37, Tryz.ntmps37
    go_wp2_with fail
    obtain ⟨W0, hW0⟩ : ∃ W0, W0 = w.alloc (.cells #[.int .i64 k, .int .i64 n, .slice o len cap] 24) := ⟨_, rfl⟩
    have HB0 : Hid (∀ W, Quiet0 W0 W → W.cell? ⟨w.heap.size, 0, none⟩ = some (.int .i64 k)) := by
      intro W hq; rw [hW0] at hq; exact (box_cells w k n o len cap _ W hq).1
    have HB1 : Hid (∀ W, Quiet0 W0 W → W.cell? ⟨w.heap.size, 1, none⟩ = some (.int .i64 n)) := by
      intro W hq; rw [hW0] at hq; exact (box_cells w k n o len cap _ W hq).2.1
    have HB : Hid (∀ W, Quiet0 W0 W → W.cell? ⟨w.heap.size, 2, none⟩ = some (.slice o len cap)) := by
      intro W hq; rw [hW0] at hq; exact (box_cells w k n o len cap _ W hq).2.2
    have HQ0 : Hid (Quiet0 w W0) := by rw [hW0]; exact Quiet0.alloc _ _
    change Code.wp _ _ _ _ (w.alloc (.cells #[.int .i64 k, .int .i64 n, .slice o len cap] 24))
    rw [← hW0]
    clear hW0
    generalize w.heap.size = nb at *
    go_loopw [1, 7] (fun s t wr => ∃ (i : Nat) (x : Int), t = .int .i64 i ∧ s = .int .i64 x ∧ i ≤ len ∧ -1 ≤ x ∧ x ≤ 100000 ∧ res = Fo.room D x (ps.drop i) ∧ Quiet0 W0 wr) (fun _ t _ => len - (intOf t).toNat)
    case atStart => exact ⟨0, m - 1, rfl, rfl, Nat.zero_le _, by omega, by omega, by rw [Fo.drop_zero]; exact HRES.out, Quiet0.refl _⟩
    case round =>
      obtain ⟨i, x, rfl, rfl, hi, hx0, hx1, hr, hq⟩ := hrel
      have HR := Lib.hid hr
      have HQ := Lib.hid hq
      have c2 := HB.out wr hq
      clear hr hq
      by_cases hlt : i < len
      · have hlt' : (i : Int) < len := by omega
        by_cases hx : 0 ≤ x
        · obtain ⟨b, off, k', n', qs, o', len', cap', rfl, hd, hg, e0, e1, e2, hs'⟩ := (HS.out.stay (HQ0.out.trans HQ.out)).nth hlt
          have HD := Lib.hid hd
          have HC := Lib.hid (IH.out i k' n' qs hg wr o' len' cap' D x ((d : Int) - 1) (by have := HDD.out; omega) hs' hx hx1 hD1)
          obtain ⟨y, hy⟩ : ∃ y, y = if D = 0 then -1 else Fo.room (D - 1) (x - 1) qs := ⟨_, rfl⟩
          have hyb : -1 ≤ y ∧ y ≤ 100000 := by
            rw [hy]; split
            · omega
            · by_cases h1 : 0 ≤ x - 1
              · have := Fo.room_le qs (D - 1) (x - 1) h1; omega
              · rw [Fo.room_neg _ _ _ (by omega)]; omega
          have HY : Hid (res = Fo.room D y (ps.drop (i + 1))) := by
            show _ = _
            rw [HR.out, hd, hy]
            cases D with
            | zero => conv => lhs; unfold Fo.room
                      rw [if_neg (by omega)]; rfl
            | succ E => conv => lhs; unfold Fo.room
                        rw [if_neg (by omega), if_neg (by omega)]; rfl
          rw [← hy] at HC
          unfold tyv at HC
          clear hd hg hs' hy
          go_wp2_with fail
          refine HC.out.mono ?_; rintro e w1 ⟨rfl, hq1⟩
          have HQ1 := Lib.hid (HQ.out.trans hq1)
          clear hq1
          go_wp2_with fail
          go_roundw
          case rel => exact ⟨i + 1, y, by go_num, rfl, by omega, hyb.1, hyb.2, HY.out, HQ1.out⟩
          case measure => simp [intOf]; omega
        · have hx' : x < 0 := by omega
          have HY : Hid (res = x) := by show _ = _; rw [HR.out]; exact Fo.room_neg _ _ _ hx'
          go_wp2_with fail
          go_ret
          exact ⟨by rw [HY.out]; rfl, HQ0.out.trans HQ.out⟩
      · have hlt' : ¬ (i : Int) < len := by omega
        have HY : Hid (res = x) := by
          show _ = _
          rw [HR.out, Fo.drop_end ps i (by have := HL.out; omega)]
          unfold Fo.room; rfl
        go_wp2_with fail
        go_ret
        exact ⟨by rw [HY.out]; rfl, HQ0.out.trans HQ.out⟩
/-- Great: is there more than is asked of? -/
def greatF (ps : Fo) : Bool := decide (Fo.room 39 299 ps < 0)
theorem great_size {ps : Fo} (h : greatF ps = false) : ps.size + 1 ≤ 300 := by
  unfold greatF at h
  have h0 : 0 ≤ Fo.room 39 299 ps := by simpa using h
  have := Fo.room_size ps 39 299 h0
  omega
set_option maxHeartbeats 1000000 in
theorem great_any (k n : Int) (ps : Fo) (w : World) (o : Option Addr) (len cap : Nat) (hs : Slc w o len ps) :
    Calls Tryz.prog 19 #[tyv k n o len cap] w fun e w' => e = .returned (.bool (greatF ps)) ∧ Quiet0 w w' := by
  have HC := Lib.hid (fun (W : World) (hq : Quiet0 w W) => room_any k n ps W o len cap 40 300 40 rfl (hs.stay hq) (by omega) (by omega) (by omega))
  unfold greatF
  rw [if_neg (by omega), show (40 : Nat) - 1 = 39 from rfl, show (300 : Int) - 1 = 299 from rfl] at HC
  generalize Fo.room 39 299 ps = r at *
  unfold tyv at *
  go_enter Tryz.func19, Tryz.ntmps19
  go_wp2_with fail
  refine (HC.out _ (Quiet0.alloc _ _)).mono ?_; rintro e w1 ⟨rfl, hq⟩
  go_wp2_with fail
  go_ret
  exact ⟨rfl, (Quiet0.alloc _ _).trans hq⟩
end Go.Proofs.YtdlcakmjihfgfaaGreatDoor
end
section
/-
  The reference's Same and Right on types. Condition: the types lie in memory as told.
-/
namespace Go.Proofs.YtdlcakmjihfgfaaGreatDoor
open Go.RowKit

def sameT (k n : Int) (ps : Fo) (k' n' : Int) (ps' : Fo) : Bool := (k == k') && (n == n') && ps.same ps'
theorem same_cons (k n : Int) (ps r : Fo) (k' n' : Int) (ps' r' : Fo) : (Fo.cons k n ps r).same (Fo.cons k' n' ps' r') = (sameT k n ps k' n' ps' && r.same r') := by simp [Fo.same, sameT]
/-- ref.Same -/
def RSame (k n : Int) (ps : Fo) : Prop := ∀ (k' n' : Int) (ps' : Fo) (w : World) (o : Option Addr) (len cap : Nat) (o' : Option Addr) (len' cap' : Nat), Slc w o len ps → Slc w o' len' ps' →
  Calls Tryz.prog 36 #[tyv k n o len cap, tyv k' n' o' len' cap'] w fun e w' => e = .returned (.bool (sameT k n ps k' n' ps')) ∧ Quiet0 w w'
theorem box_cells2 (w : World) (k n : Int) (o : Option Addr) (len cap : Nat) (k' n' : Int) (o' : Option Addr) (len' cap' : Nat) (t : TypeId) (W : World) (hW : Quiet0 ((w.alloc (.cells #[.int .i64 k, .int .i64 n, .slice o len cap] t)).alloc (.cells #[.int .i64 k', .int .i64 n', .slice o' len' cap'] t)) W) :
    (W.cell? ⟨w.heap.size, 0, none⟩ = some (.int .i64 k) ∧ W.cell? ⟨w.heap.size, 1, none⟩ = some (.int .i64 n) ∧ W.cell? ⟨w.heap.size, 2, none⟩ = some (.slice o len cap)) ∧
    (W.cell? ⟨w.heap.size + 1, 0, none⟩ = some (.int .i64 k') ∧ W.cell? ⟨w.heap.size + 1, 1, none⟩ = some (.int .i64 n') ∧ W.cell? ⟨w.heap.size + 1, 2, none⟩ = some (.slice o' len' cap')) := by
  refine ⟨box_cells w k n o len cap t W ((Quiet0.alloc _ _).trans hW), ?_⟩
  have h := box_cells (w.alloc (.cells #[.int .i64 k, .int .i64 n, .slice o len cap] t)) k' n' o' len' cap' t W hW
  have e : (w.alloc (.cells #[.int .i64 k, .int .i64 n, .slice o len cap] t)).heap.size = w.heap.size + 1 := by simp
  rw [e] at h
  exact h

set_option maxRecDepth 100000 in
set_option maxHeartbeats 2000000 in
theorem refSame_any (k n : Int) (ps : Fo) : RSame k n ps := by
  refine Fo.ind' (T := RSame) ?_ k n ps
  intro k n ps ih k' n' ps' w o len cap o' len' cap' hs hs'
  have HS := Lib.hid hs
  have HS' := Lib.hid hs'
  have IH := Lib.hid ih
  have HL := Lib.hid hs.1
  have HL' := Lib.hid hs'.1
  have hmx := hs.2.1
  unfold maxLen at hmx
  clear hs hs' ih
  obtain ⟨res, hres⟩ : ∃ res, res = sameT k n ps k' n' ps' := ⟨_, rfl⟩
  have HRES := Lib.hid hres
  rw [← hres]
  clear hres
  by_cases hk : k = k'
  · by_cases hn : n = n'
    · by_cases hlen : len = len'
      · have HR2 : Hid (res = ps.same ps') := by show _ = _; rw [HRES.out]; simp [sameT, hk, hn]
        subst hk hn hlen
        have b1 : (k != k) = false := by simp
        have b2 : (n != n) = false := by simp
        have b3 : ((len : Int) != (len : Int)) = false := by simp
        unfold tyv
        go_enter Tryz.func36, Tryz.ntmps36
        go_wp2_with fail
        obtain ⟨W0, hW0⟩ : ∃ W0, W0 = (w.alloc (.cells #[.int .i64 k, .int .i64 n, .slice o len cap] 24)).alloc (.cells #[.int .i64 k, .int .i64 n, .slice o' len cap'] 24) := ⟨_, rfl⟩
        have HBB : Hid (∀ W, Quiet0 W0 W → W.cell? ⟨w.heap.size, 2, none⟩ = some (.slice o len cap) ∧ W.cell? ⟨w.heap.size + 1, 2, none⟩ = some (.slice o' len cap')) := by
          intro W hq; rw [hW0] at hq
          have := box_cells2 w k n o len cap k n o' len cap' _ W hq
          exact ⟨this.1.2.2, this.2.2.2⟩
        have HQ0 : Hid (Quiet0 w W0) := by rw [hW0]; exact (Quiet0.alloc _ _).trans (Quiet0.alloc _ _)
        change Code.wp _ _ _ _ ((w.alloc (.cells #[.int .i64 k, .int .i64 n, .slice o len cap] 24)).alloc (.cells #[.int .i64 k, .int .i64 n, .slice o' len cap'] 24))
        rw [← hW0]
        clear hW0
        generalize w.heap.size = nb at *
        go_loopw [5] (fun t wr => ∃ (i : Nat), t = .int .i64 i ∧ i ≤ len ∧ res = (ps.drop i).same (ps'.drop i) ∧ Quiet0 W0 wr) (fun t _ => len - (intOf t).toNat)
        case atStart => exact ⟨0, rfl, Nat.zero_le _, by rw [Fo.drop_zero, Fo.drop_zero]; exact HR2.out, Quiet0.refl _⟩
        case round =>
          obtain ⟨i, rfl, hi, hr, hq⟩ := hrel
          have HR := Lib.hid hr
          have HQ := Lib.hid hq
          obtain ⟨c1, c2⟩ := HBB.out wr hq
          clear hr hq
          by_cases hlt : i < len
          · have hlt' : (i : Int) < len := by omega
            obtain ⟨b, off, k1, n1, qs1, o1, len1, cap1, rfl, hd1, hg1, e0, e1, e2, hs1⟩ := (HS.out.stay (HQ0.out.trans HQ.out)).nth hlt
            obtain ⟨b2, off2, k2, n2, qs2, o2, len2, cap2, rfl, hd2, hg2, f0, f1, f2, hs2⟩ := (HS'.out.stay (HQ0.out.trans HQ.out)).nth hlt
            have HC := Lib.hid (fun (W : World) (hq : Quiet0 wr W) => IH.out i k1 n1 qs1 hg1 k2 n2 qs2 W o1 len1 cap1 o2 len2 cap2 (hs1.stay hq) (hs2.stay hq))
            have HN : Hid (res = (sameT k1 n1 qs1 k2 n2 qs2 && (ps.drop (i + 1)).same (ps'.drop (i + 1)))) := by
              show _ = _
              rw [HR.out, hd1, hd2, same_cons]
            unfold tyv at HC
            clear hd1 hg1 hs1 hd2 hg2 hs2
            cases hb : sameT k1 n1 qs1 k2 n2 qs2
            all_goals
              have HBV := Lib.hid hb
              clear hb
              go_wp2_with fail
              refine wp_region_still_tail 10 (by kernel_rfl) (by kernel_rfl) ?_
              simp only [List.take_succ_cons, List.take_zero, List.drop_succ_cons, List.drop_zero]
              change wpStill _ _ (World.drew wr) _ _ _
              repeat still_step
              refine wpStill_nil ?_
              change wpList _ _ _ _ _ (World.drew wr)
              go_wp2_with fail
              refine (HC.out _ (Quiet0.drew _)).mono ?_; rintro e w1 ⟨rfl, hq1⟩
              rw [HBV.out]
              have HQ1 := Lib.hid ((HQ.out.trans (Quiet0.drew _)).trans hq1)
              clear hq1
              go_wp2_with fail
            · go_ret
              exact ⟨by rw [HN.out, HBV.out]; rfl, HQ0.out.trans HQ1.out⟩
            · go_roundw
              case rel => exact ⟨i + 1, by go_num, by omega, by rw [HN.out, HBV.out]; rfl, HQ1.out⟩
              case measure => simp [intOf]; omega
          · have hlt' : ¬ (i : Int) < len := by omega
            have HY : Hid (res = true) := by
              show _ = _
              rw [HR.out, Fo.drop_end ps i (by have := HL.out; omega), Fo.drop_end ps' i (by have := HL'.out; omega)]; rfl
            go_wp2_with fail
            go_ret
            exact ⟨by rw [HY.out]; rfl, HQ0.out.trans HQ.out⟩
      · have HF : Hid (res = false) := by
          show _ = _
          rw [HRES.out]
          have : ps.same ps' = false := by
            cases h : ps.same ps'
            · rfl
            · exact absurd (Fo.same_length _ _ h) (by have := HL.out; have := HL'.out; omega)
          simp [sameT, this]
        subst hk hn
        have b1 : (k != k) = false := by simp
        have b2 : (n != n) = false := by simp
        have b3 : ((len : Int) != (len' : Int)) = true := by simp; omega
        unfold tyv
        go_enter Tryz.func36, Tryz.ntmps36
        go_wp2_with fail
        go_ret
        exact ⟨by rw [HF.out]; rfl, (Quiet0.alloc _ _).trans (Quiet0.alloc _ _)⟩
    · have HF : Hid (res = false) := by show _ = _; rw [HRES.out]; simp [sameT, hn]
      subst hk
      have b1 : (k != k) = false := by simp
      have b2 : (n != n') = true := by simpa using hn
      clear hn
      unfold tyv
      go_enter Tryz.func36, Tryz.ntmps36
      go_wp2_with fail
      go_ret
      exact ⟨by rw [HF.out]; rfl, (Quiet0.alloc _ _).trans (Quiet0.alloc _ _)⟩
  · have HF : Hid (res = false) := by show _ = _; rw [HRES.out]; simp [sameT, hk]
    have b1 : (k != k') = true := by simpa using hk
    clear hk
    unfold tyv
    go_enter Tryz.func36, Tryz.ntmps36
    go_wp2_with fail
    go_ret
    exact ⟨by rw [HF.out]; rfl, (Quiet0.alloc _ _).trans (Quiet0.alloc _ _)⟩
end Go.Proofs.YtdlcakmjihfgfaaGreatDoor
end
section
/-
  Whether a type is: the program's Right (plain, known, and a closure handed to slices.ContainsFunc), the reference's Right. Condition: the types lie in memory as told.
-/
namespace Go.Proofs.YtdlcakmjihfgfaaGreatDoor
open Go.RowKit

def rightT (k n : Int) (ps : Fo) : Bool := Fo.plain k n ps.length && ps.right
theorem right_cons (k n : Int) (ps r : Fo) : (Fo.cons k n ps r).right = (rightT k n ps && r.right) := by simp [Fo.right, rightT]
/-- a tree's first place at which something holds -/
def idxF (p : Int → Int → Fo → Bool) : Fo → Nat → Int
  | .nil, _ => -1
  | .cons k n ps r, i => if p k n ps then (i : Int) else idxF p r (i + 1)
def anyF (p : Int → Int → Fo → Bool) : Fo → Bool
  | .nil => false
  | .cons k n ps r => p k n ps || anyF p r
theorem idx_any (p : Int → Int → Fo → Bool) : ∀ (f : Fo) (i : Nat), decide (0 ≤ idxF p f i) = anyF p f
  | .nil, i => by simp [idxF, anyF]
  | .cons k n ps r, i => by
    unfold idxF anyF
    cases h : p k n ps
    · simp only [Bool.false_eq_true, if_false, Bool.false_or]; exact idx_any p r (i + 1)
    · simp
theorem any_not_right : ∀ f : Fo, anyF (fun k n ps => !rightT k n ps) f = !f.right
  | .nil => rfl
  | .cons k n ps r => by unfold anyF; rw [right_cons, any_not_right r, Bool.not_and]

theorem known_any (n : Int) (w : World) : Calls Tryz.prog 89 #[.int .i64 n] w fun e w' => e = .returned (.bool (decide (0 ≤ n) && decide (n < 1073741824))) ∧ w = w' := by
  by_cases h : 0 ≤ n
  · go_enter Tryz.func89, Tryz.ntmps89
    go_wp2_with fail
    go_ret
    exact ⟨by first | (simp [h]; done) | (simp; omega), rfl⟩
  · go_enter Tryz.func89, Tryz.ntmps89
    go_wp2_with fail
    go_ret
    exact ⟨by first | (simp [h]; done) | (simp; omega), rfl⟩

set_option maxHeartbeats 2000000 in
theorem plain_any (k n : Int) (len : Nat) (o : Option Addr) (cap : Nat) (w : World) : Calls Tryz.prog 74 #[tyv k n o len cap] w fun e w' => e = .returned (.bool (Fo.plain k n len)) ∧ Quiet0 w w' := by
  obtain ⟨res, hres⟩ : ∃ res, res = Fo.plain k n len := ⟨_, rfl⟩
  have HR := Lib.hid hres
  rw [← hres]
  clear hres
  unfold tyv
  by_cases k1 : k = 1
  · subst k1
    cases hkn : (decide (0 ≤ n) && decide (n < 1073741824))
    · have HK := Lib.hid (known_any n)
      rw [hkn] at HK
      have HF : Hid (res = false) := by show _ = _; rw [HR.out]; unfold Fo.plain; simp only [beq_self_eq_true, if_true]; rw [hkn]; rfl
      clear hkn
      go_enter Tryz.func74, Tryz.ntmps74
      go_wp2_with fail
      refine (HK.out _).mono ?_; rintro e w1 ⟨rfl, rfl⟩
      go_wp2_with fail
      go_ret
      exact ⟨by rw [HF.out]; rfl, Quiet0.alloc _ _⟩
    · have HK := Lib.hid (known_any n)
      rw [hkn] at HK
      have HF : Hid (res = ((len : Int) == 0)) := by
        show _ = _
        rw [HR.out]; unfold Fo.plain; simp only [beq_self_eq_true, if_true]; rw [hkn, Bool.eq_iff_iff]; simp
      clear hkn
      go_enter Tryz.func74, Tryz.ntmps74
      go_wp2_with fail
      refine (HK.out _).mono ?_; rintro e w1 ⟨rfl, rfl⟩
      go_wp2_with fail
      all_goals
        go_ret
        exact ⟨by rw [HF.out]; first | rfl | simp_all, Quiet0.alloc _ _⟩
  have b1 : (k == 1) = false := by simpa using k1
  by_cases hn : n = 0
  · subst hn
    by_cases k2 : k = 2
    · subst k2
      have HF : Hid (res = ((len : Int) == 0)) := by show _ = _; rw [HR.out, Bool.eq_iff_iff]; simp [Fo.plain]
      go_enter Tryz.func74, Tryz.ntmps74
      go_wp2_with fail
      all_goals
        go_ret
        exact ⟨by rw [HF.out]; first | rfl | simp_all, Quiet0.alloc _ _⟩
    have b2 : (k == 2) = false := by simpa using k2
    by_cases k3 : k = 3
    · subst k3
      have HF : Hid (res = ((len : Int) == 0)) := by show _ = _; rw [HR.out, Bool.eq_iff_iff]; simp [Fo.plain]
      go_enter Tryz.func74, Tryz.ntmps74
      go_wp2_with fail
      all_goals
        go_ret
        exact ⟨by rw [HF.out]; first | rfl | simp_all, Quiet0.alloc _ _⟩
    have b3 : (k == 3) = false := by simpa using k3
    by_cases k4 : k = 4
    · subst k4
      have HF : Hid (res = ((len : Int) == 2)) := by show _ = _; rw [HR.out, Bool.eq_iff_iff]; simp [Fo.plain]; omega
      go_enter Tryz.func74, Tryz.ntmps74
      go_wp2_with fail
      all_goals
        go_ret
        exact ⟨by rw [HF.out]; first | rfl | simp_all, Quiet0.alloc _ _⟩
    have b4 : (k == 4) = false := by simpa using k4
    by_cases k5 : k = 5
    · subst k5
      by_cases h2 : 2 ≤ len
      · have h2' : (2 : Int) ≤ (len : Int) := by omega
        by_cases h8 : len ≤ 8
        · have h8' : (len : Int) ≤ 8 := by omega
          have HF : Hid (res = true) := by show _ = _; rw [HR.out]; simp [Fo.plain, h2, h8]
          go_enter Tryz.func74, Tryz.ntmps74
          go_wp2_with fail
          go_ret
          exact ⟨by rw [HF.out]; rfl, Quiet0.alloc _ _⟩
        · have h8' : ¬ (len : Int) ≤ 8 := by omega
          have HF : Hid (res = false) := by show _ = _; rw [HR.out]; simp [Fo.plain, h8]
          go_enter Tryz.func74, Tryz.ntmps74
          go_wp2_with fail
          go_ret
          exact ⟨by rw [HF.out]; rfl, Quiet0.alloc _ _⟩
      · have h2' : ¬ (2 : Int) ≤ (len : Int) := by omega
        have HF : Hid (res = false) := by show _ = _; rw [HR.out]; simp [Fo.plain, h2]
        go_enter Tryz.func74, Tryz.ntmps74
        go_wp2_with fail
        go_ret
        exact ⟨by rw [HF.out]; rfl, Quiet0.alloc _ _⟩
    have b5 : (k == 5) = false := by simpa using k5
    have HF : Hid (res = false) := by show _ = _; rw [HR.out]; unfold Fo.plain; simp only [b1, b2, b3, b4, b5]; rfl
    clear k1 k2 k3 k4 k5
    go_enter Tryz.func74, Tryz.ntmps74
    go_wp2_with fail
    go_ret
    exact ⟨by rw [HF.out]; rfl, Quiet0.alloc _ _⟩
  · have HF : Hid (res = false) := by
      show _ = _
      rw [HR.out]
      have hn' : (n == 0) = false := by simpa using hn
      unfold Fo.plain
      simp only [b1, hn', Bool.false_and]
      repeat' split
      all_goals first | rfl | simp_all
    have hn' : (n == 0) = false := by simpa using hn
    clear k1 hn
    go_enter Tryz.func74, Tryz.ntmps74
    go_wp2_with fail
    all_goals
      go_ret
      exact ⟨by rw [HF.out]; rfl, Quiet0.alloc _ _⟩

/-- what a predicate handed to slices.IndexFunc has to tell of each type of a row -/
def PredTy (g : Nat) (lb : Array Value) (w0 : World) (f : Fo) (p : Int → Int → Fo → Bool) : Prop := ∀ i k n ps, f.get i = some (k, n, ps) → ∀ (W : World) (o : Option Addr) (len cap : Nat), Quiet0 w0 W → Slc W o len ps →
  Calls Tryz.prog g (#[tyv k n o len cap] ++ lb) W fun e W' => e = .returned (.bool (p k n ps)) ∧ Quiet0 W W'
set_option maxHeartbeats 1000000 in
theorem indexFunc_any (g : Nat) (lb : Array Value) (p : Int → Int → Fo → Bool) (eg : ∀ args w, (callFunc g args).run Tryz.prog w = .ok (.enter g args) w) (f : Fo) (o : Option Addr) (len cap : Nat) (w : World) (hs : Slc w o len f) (hp : PredTy g lb w f p) :
    Calls Tryz.prog 90 #[.slice o len cap, .func (.func g) #[] lb] w fun e w' => e = .returned (.int .i64 (idxF p f 0)) ∧ Quiet0 w w' := by
  have HS := Lib.hid hs
  have HP := Lib.hid hp
  have HL := Lib.hid hs.1
  have hmx := hs.2.1
  unfold maxLen at hmx
  clear hs hp
  obtain ⟨res, hres⟩ : ∃ res, res = idxF p f 0 := ⟨_, rfl⟩
  have HR := Lib.hid hres
  rw [← hres]
  clear hres
  go_enter Tryz.func90, Tryz.ntmps90
  go_wp2_with fail
  go_loopw [8] (fun t wr => ∃ i : Nat, t = .int .i64 i ∧ i ≤ len ∧ res = idxF p (f.drop i) i ∧ Quiet0 w wr) (fun t _ => len - (intOf t).toNat)
  case atStart => exact ⟨0, rfl, Nat.zero_le _, by rw [Fo.drop_zero]; exact HR.out, Quiet0.refl _⟩
  case round =>
    obtain ⟨i, rfl, hi, hr, hq⟩ := hrel
    have HRR := Lib.hid hr
    have HQ := Lib.hid hq
    clear hr hq
    by_cases hlt : i < len
    · have hlt' : (i : Int) < len := by omega
      obtain ⟨b, off, k1, n1, qs, o1, len1, cap1, rfl, hd, hg, e0, e1, e2, hs1⟩ := (HS.out.stay HQ.out).nth hlt
      have HD := Lib.hid hd
      have HC := Lib.hid (HP.out i k1 n1 qs hg wr o1 len1 cap1 HQ.out hs1)
      unfold tyv at HC
      clear hd hg hs1
      cases hb : p k1 n1 qs
      all_goals
        have HBV := Lib.hid hb
        rw [hb] at HC
        clear hb
        go_wp2_with fail
        refine HC.out.mono ?_; rintro e w1 ⟨rfl, hq1⟩
        have HQ1 := Lib.hid (HQ.out.trans hq1)
        clear hq1
        go_wp2_with fail
      · go_roundw
        case rel => exact ⟨i + 1, by go_num, by omega, by rw [HRR.out, HD.out, idxF, HBV.out]; rfl, HQ1.out⟩
        case measure => simp [intOf]; omega
      · go_ret
        exact ⟨by rw [HRR.out, HD.out, idxF, HBV.out]; rfl, HQ1.out⟩
    · have hlt' : ¬ (i : Int) < len := by omega
      go_wp2_with fail
      go_ret
      exact ⟨by rw [HRR.out, Fo.drop_end f i (by have := HL.out; omega)]; rfl, HQ.out⟩
set_option maxHeartbeats 1000000 in
theorem containsFunc_any (g : Nat) (lb : Array Value) (p : Int → Int → Fo → Bool) (eg : ∀ args w, (callFunc g args).run Tryz.prog w = .ok (.enter g args) w) (f : Fo) (o : Option Addr) (len cap : Nat) (w : World) (hs : Slc w o len f) (hp : PredTy g lb w f p) :
    Calls Tryz.prog 75 #[.slice o len cap, .func (.func g) #[] lb] w fun e w' => e = .returned (.bool (anyF p f)) ∧ Quiet0 w w' := by
  have HC := Lib.hid (indexFunc_any g lb p eg f o len cap w hs hp)
  rw [← idx_any p f 0]
  clear hs hp eg
  generalize idxF p f 0 = r at *
  go_enter Tryz.func75, Tryz.ntmps75
  go_wp2_with fail
  refine HC.out.mono ?_; rintro e w1 ⟨rfl, hq⟩
  go_wp2_with fail
  go_ret
  exact ⟨rfl, hq⟩
end Go.Proofs.YtdlcakmjihfgfaaGreatDoor
end
