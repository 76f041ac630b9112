/-
  Texts laid together (ScFree, Rf, TeAll, TeSize): laws and walks, with their conditions in their statements.
-/
import Derived.RangeFuncOwn
import Derived.RangeFuncCalls
import Derived.Shelf.RegionOpen
import Derived.OwnWalkIn
import Derived.TacticsInMore
import Derived.LoopNIn
import Derived.LoopIn
import Derived.Sort.CutIn
import Derived.Laws.EntriesVeiled
import Derived.RangeFuncLeaves
import Derived.Test.YtnfodiedalhlhaaDoorRN14
section
namespace Go.Proofs.YtnfodiedalhlhaaDoor
open Go.RowKit Go.Shelf
namespace Sc
theorem eg_free : ∀ args w, (callFunc 72 args).run Tryd.prog w = .ok (.enter 72 args) w := enters_of Tryd.func72 (by kernel_rfl) rfl
theorem eg_res : ∀ args w, (callFunc 73 args).run Tryd.prog w = .ok (.enter 73 args) w := enters_of Tryd.func73 (by kernel_rfl) rfl
set_option maxHeartbeats 2000000 in
theorem free_any (h : Nd) (ps : To) (w : World) (R : Nat → Prop) (o1 : Option Addr) (l1 c1 : Nat) (o2 : Option Addr) (l2 c2 : Nat) (hs1 : SlcIn R w o1 l1 h.tp) (hs : TSlc R w o2 l2 ps) (hz : ps.size ≤ 100000) (hv : varOk h ps) (hav : allV ps) :
    Calls Tryd.prog 39 #[tmv h o1 l1 c1 o2 l2 c2] w (ListQ w (free1 [] h ps)) := by
  obtain ⟨W1, hW1⟩ : ∃ W1, W1 = (w.alloc (.cells (cells9 h o1 l1 c1 o2 l2 c2) 30)).alloc (.cells #[.slice none 0 0] 26) := ⟨_, rfl⟩
  have HQ1 : Hid (Quiet0 w W1) := by rw [hW1]; exact (Quiet0.alloc _ _).trans (Quiet0.alloc _ _)
  have hb0 : W1.heap[w.heap.size]? = some (.cells (cells9 h o1 l1 c1 o2 l2 c2) 30 (0, 0)) := by
    rw [hW1, Below.heap_alloc _ _ _ (by simp)]; exact heap_alloc_new w _
  have hb1 : W1.heap[w.heap.size + 1]? = some (.cells #[.slice none 0 0] 26 (0, 0)) := by
    rw [hW1]
    have := heap_alloc_new (w.alloc (.cells (cells9 h o1 l1 c1 o2 l2 c2) 30)) (.cells #[.slice none 0 0] 26)
    simpa using this
  have hz1 : W1.heap.size = w.heap.size + 2 := by rw [hW1]; simp
  have hJ : FJ (w.heap.size + 1) (0 + (ps.size + 1)) [] (fun k => k = w.heap.size + 1) W1 := ⟨none, 0, [], hb1, list_nil _ _, by simp; omega, fun k => by simp [Value.ownBlock]⟩
  have HC := Lib.hid (walkT_any (F := 72) (lb := #[.pointer (some ⟨w.heap.size + 1, 0, none⟩)]) (R := fun k => k < w.heap.size) (L0 := w.heap.size + 1) (stp := frS) (out := fun x _ => x) eg_free (freeDo_any _ _ (fun k hk => by omega)) (fun k hk => by omega) (fun _ _ => rfl) h ps 0 [] _ W1 (fun _ => False) [] o1 l1 c1 o2 l2 c2 none 0 0 hJ (NmIn.nil _ _ _) (Nat.le_refl _) (fun _ h => h.elim) (by omega)
    (((hs1.mono (T := fun k => k < w.heap.size) (fun k hk _ => hk)).stay HQ1.out)) (((hs.mono (T := fun k => k < w.heap.size) (fun k hk _ => hk)).stay HQ1.out)) hv hav)
  have HF : Hid ((wk1 frS (fun x _ => x) [] [] h ps).1 = free1 [] h ps) := by show _ = _; rw [wk1_free]; rfl
  obtain ⟨⟨a0, a1, a2, a3, a4, a5, a6, a7, a8⟩, _⟩ := block9 hb0
  have HZ1 := Lib.hid hz1
  clear hb0 hb1 hJ hs1 hs hv hav hz1
  unfold tmv at HC ⊢
  go_enter Tryd.func39, Tryd.ntmps39
  go_upto_region 2 with fail
  change Code.wp _ _ _ _ ((w.alloc (.cells (cells9 h o1 l1 c1 o2 l2 c2) 30)).alloc (.cells #[.slice none 0 0] 26))
  rw [← hW1]
  clear hW1
  go_wp2_with fail
  refine HC.out.mono ?_; rintro x w2 ⟨r2, e2, D2, E2, rfl, ⟨o, c, xs, hb, hl, _, hd⟩, _, _, hf, _⟩
  rw [HF.out] at hb hl hd
  have cb := cell_of_one hb
  have HL := Lib.hid hl
  have HFR := Lib.hid hf
  unfold tmv
  clear hb hl hd hf a0 a1 a2 a3 a4 a5 a6 a7 a8
  go_wp2_with fail
  go_ret
  exact ⟨o, c, xs, rfl, list_low HL.out (by omega), HQ1.out.trans' HFR.out (fun k hk h => by have h' : k = w.heap.size + 1 := h; omega)⟩
theorem rsO_tp (h : Nd) (e : List ByteArray) : (rsO h e).tp = h.tp := by unfold rsO; split <;> rfl
theorem brO_tp (h : Nd) (e : List ByteArray) : (brO h e).tp = h.tp := rfl
end Sc
end Go.Proofs.YtnfodiedalhlhaaDoor
end
section
namespace Go.Proofs.YtnfodiedalhlhaaDoor
open Go.RowKit
theorem Fr.putObj (S : Nat → Prop) (w : World) (r : Nat) (o : Obj) (h : S r) : Fr S w (w.putObj r o) :=
  ⟨rfl, rfl, rfl, by simp, fun k _ hk => World.putObj_heap_other (fun e => hk (by rw [e]; exact h))⟩
theorem room_wide_any (k : Nat) : Fence.wide.room k := fun d h => by cases h
theorem yield_any {m : Nat} (m' : Nat) {P : Program} {l : Nat} {args : Array Value} {W : World} {R : Ending → World → Prop} (h : YieldAt Fence.wide m P l args W R) : YieldAt Fence.wide m' P l args W R := by
  obtain ⟨fn, tmps, assign, body, hy, hR⟩ := h
  exact ⟨fn, tmps, assign, body, hy, hR.1, fun c cs _ => hR.2 c cs (room_wide_any _)⟩
def SeqC {α : Type} (n : Nat) (P : Program) (g : Nat) (lb : Array Value) (Enc : Nat → α → Array Value → World → Prop) (R : Nat → Prop) (xs : List α) (w : World) : Prop :=
  ∀ (l : Nat) (J : Nat → (Nat → Prop) → World → Prop) (Jx : World → Prop) (W : World) (D0 : Nat → Prop), Fr (fun _ => False) w W →
    (∀ i D A, J i D A → ∀ k, D k → k < A.heap.size ∧ ¬ R k) →
    (∀ i D A B, J i D A → Fr (fun k => W.heap.size ≤ k ∧ ¬ D k) A B → J i D B) →
    (∀ A B, Jx A → Fr (fun _ => False) A B → Jx B) →
    (∀ i x va D W1, xs[i]? = some x → Enc i x va W1 → J i D W1 → YieldAt Fence.wide n P l va W1 fun e W' =>
      (e = .returned (.bool true) ∧ ∃ D', J (i + 1) D' W' ∧ Fr D W1 W' ∧ ∀ k, D' k → D k ∨ W1.heap.size ≤ k) ∨ (e = .returned (.bool false) ∧ Jx W')) →
    J 0 D0 W →
    CallsIn Fence.wide n P g (#[.func (.yield l) #[] #[]] ++ lb) W fun e W' => (∃ v, e = .returned v) ∧ ((∃ D, J xs.length D W') ∨ Jx W')
def rfPost (I : Nat → (Nat → Prop) → World → Prop) (Ix : Code → World → Prop) (i : Nat) (D : Nat → Prop) (W : World) : Exit → Act → World → Prop
  | .normal, _, W' => ∃ D', I (i + 1) D' W' ∧ Fr D W W' ∧ ∀ k, D' k → D k ∨ W.heap.size ≤ k
  | .ret, _, W' => Ix .ret W' ∧ Fr D W W'
  | .exit id, _, W' => Ix (.exit id) W' ∧ Fr D W W'
  | .goto t, _, W' => Ix (.goto t) W' ∧ Fr D W W'
  | .panic _, _, _ => False
  | .outgrown, _, _ => False
theorem wpIn_range_c {α : Type} {n : Nat} {P : Program} {g : Operand} {ps : Array Tmp} {assign body : Code} {Q : Exit → Act → World → Prop} {a : Act} {w : World}
    {gf : Nat} {lb : Array Value} (hg : a.eval g = .func (.func gf) #[] lb) (eg : ∀ args w, (callFunc gf args).run P w = .ok (.enter gf args) w)
    {Enc : Nat → α → Array Value → World → Prop} {R : Nat → Prop} {xs : List α} {w0 : World} (hseq : SeqC (n - 1) P gf lb Enc R xs w0) (hR : ∀ k, R k → k < w0.heap.size) (hb0 : Fr (fun _ => False) w0 w) (hps : ∀ i x va W, Enc i x va W → va.size = ps.size)
    (I : Nat → (Nat → Prop) → World → Prop) (Im : Nat → α → Act → (Nat → Prop) → World → Prop) (Ix : Code → World → Prop) (D0 : Nat → Prop)
    (hown : ∀ i D A, I i D A → ∀ k, D k → k < A.heap.size ∧ ¬ R k ∧ (k < w.heap.size ∨ w.heap.size + 2 ≤ k))
    (hI : ∀ i D A B, I i D A → Fr (fun k => w.heap.size ≤ k ∧ ¬ D k) A B → I i D B)
    (hIm : ∀ i x a' D A B, Im i x a' D A → Fr (fun k => k = w.heap.size + 1) A B → Im i x a' D B)
    (hIx : ∀ c A B, Ix c A → Fr (fun k => k = w.heap.size + 1) A B → Ix c B)
    (h0 : I 0 D0 w)
    (hassign : ∀ (l i : Nat) (x : α) (va : Array Value) (D : Nat → Prop) (W : World) (K : Act → World → Prop), xs[i]? = some x → Enc i x va W → I i D W → w.heap.size + 2 ≤ W.heap.size → (∀ a' W', Im i x a' D W' → Fr (fun _ => False) W W' → K a' W') →
      assign.wpIn (Fence.wide.inRound l) (n - 1) P (Exit.then K (fun _ _ _ => False)) { tmps := (ps.zip va).foldl (fun t (p, v) => t.setIfInBounds p v) a.tmps, defers := [] } W)
    (hbody : ∀ (l i : Nat) (x : α) (a' : Act) (D : Nat → Prop) (W : World), xs[i]? = some x → Im i x a' D W → w.heap.size + 2 ≤ W.heap.size → body.wpIn (Fence.wide.inRound l) (n - 1) P (rfPost I Ix i D W) a' W)
    (hdone : ∀ (D : Nat → Prop) (W : World), I xs.length D W → W.heap[w.heap.size]? = some (.deferred (some [])) → Q .normal { a with defers := { target := .collected w.heap.size, args := #[] } :: a.defers } W)
    (hstop : ∀ (c : Code) (W : World), Ix c W → W.heap[w.heap.size]? = some (.deferred (some [])) → c.wpIn Fence.wide n P Q { a with defers := { target := .collected w.heap.size, args := #[] } :: a.defers } W) :
    (Code.rangeFunc g ps assign body).wpIn Fence.wide n P Q a w := by
  refine wpIn_rangeFunc ?_
  intro fn hfn
  change ∃ l mark w₁ d w₁' f args w₂, (Instr.enterLoop fn a.tmps ps assign body none).run P w = _ ∧ _
  obtain ⟨B, hB⟩ : ∃ B, B = w.heap.size := ⟨_, rfl⟩
  obtain ⟨rc, hrc⟩ : ∃ rc : LoopState → Option Code → Loop, rc = fun st pe => { state := st, pending := pe, fn, tmps := a.tmps, params := ps, assign, body, defers := w.heap.size } := ⟨_, rfl⟩
  obtain ⟨W1, hW1⟩ : ∃ W1, W1 = (w.alloc (.deferred (some []))).alloc (.loop (rc .ready none)) := ⟨_, rfl⟩
  have hf1 : Fr (fun _ => False) w W1 := by rw [hW1]; exact (Fr.alloc _ _ _).trans (Fr.alloc _ _ _)
  have hs1 : W1.heap.size = B + 2 := by rw [hW1, hB]; simp
  have hL1 : W1.heap[B + 1]? = some (.loop (rc .ready none)) := by
    have h := World.alloc_heap_new (w.alloc (.deferred (some []))) (.loop (rc .ready none))
    rw [World.size_alloc] at h
    rw [hW1, hB]; exact h
  have hK1 : W1.heap[B]? = some (.deferred (some [])) := by
    rw [hW1, hB]; exact ((Fr.alloc (fun _ => False) (w.alloc (.deferred (some []))) _).block w.heap.size (by simp) (fun h => h)).trans (World.alloc_heap_new w _)
  refine ⟨B + 1, [{ target := .collected B, args := #[] }], W1, { target := .fn (.func gf) lb, args := #[.func (.yield (B + 1)) #[] #[]] }, W1, gf, #[.func (.yield (B + 1)) #[] #[]] ++ lb, W1, ?_, ?_, fun _ _ => trivial, ?_, fun h => by simp [Fence.wide] at h, ?_⟩
  · rw [hW1, hrc, hB]; exact run_enterLoop_outer _ _ _ _ _
  · simp only [resolve, hg]
    simp [go_sem]
  · simp [invoke, go_sem, eg]
  rw [← hB] at hown hI hIm hIx hassign hbody hdone hstop
  refine (hseq (B + 1)
    (fun i D W => ∃ D1, I i D1 W ∧ W.heap[B + 1]? = some (.loop (rc .ready none)) ∧ W.heap[B]? = some (.deferred (some [])) ∧ ∀ k, D k ↔ (D1 k ∨ k = B + 1))
    (fun W => ∃ c, Ix c W ∧ W.heap[B + 1]? = some (.loop (rc .done (some c))) ∧ W.heap[B]? = some (.deferred (some [])))
    W1 (fun k => D0 k ∨ k = B + 1) (hb0.trans hf1) ?own ?stay ?stayx ?round ?start).mono ?fin
  case own =>
    rintro i D A ⟨D1, hi, hl, hk, hd⟩ k hDk
    rcases (hd k).1 hDk with h | h
    · exact ⟨(hown i D1 A hi k h).1, (hown i D1 A hi k h).2.1⟩
    · subst h
      exact ⟨(Array.getElem?_eq_some_iff.1 hl).1, fun h => by have h1 := hR _ h; have h2 := hb0.size; rw [← hB] at h2; omega⟩
  case stay =>
    rintro i D A C ⟨D1, hi, hl, hk, hd⟩ hf
    have hl' := (Array.getElem?_eq_some_iff.1 hl).1
    refine ⟨D1, hI i D1 A C hi (hf.mono (fun k _ h => ⟨by omega, fun h' => h.2 ((hd k).2 (.inl h'))⟩)), (hf.block _ hl' (by omega)).trans hl, (hf.block _ (by omega) (by omega)).trans hk, hd⟩
  case stayx =>
    rintro A C ⟨c, hc, hl, hk⟩ hf
    have hl' := (Array.getElem?_eq_some_iff.1 hl).1
    exact ⟨c, hIx c A C hc (hf.mono (fun k _ h => h.elim)), (hf.block _ hl' (fun h => h)).trans hl, (hf.block _ (by omega) (fun h => h)).trans hk⟩
  case start =>
    exact ⟨D0, hI 0 D0 w W1 h0 (hf1.mono (fun k _ h => h.elim)), hL1, hK1, fun k => Iff.rfl⟩
  case fin =>
    rintro e W2 ⟨⟨v, rfl⟩, (⟨D, D1, hi, hl, hk, hd⟩ | ⟨c, hc, hl, hk⟩)⟩
    · refine ⟨none, _, by have h := run_endLoop (P := P) hl (by rw [hrc]; simp); rw [hrc] at h; exact h, hdone D1 _ (hI _ _ _ _ hi (Fr.putObj _ _ _ _ ⟨by omega, fun h => by have := hown _ _ _ hi _ h; omega⟩)) ((World.putObj_heap_other (by omega)).trans hk)⟩
    · exact ⟨some c, _, by have h := run_endLoop (P := P) hl (by rw [hrc]; simp); rw [hrc] at h; exact h, hstop c _ (hIx c _ _ hc (Fr.putObj _ _ _ _ rfl)) ((World.putObj_heap_other (by omega)).trans hk)⟩
  case round =>
    rintro i x va D W hx henc ⟨D1, hi, hl, hk, hd⟩
    have hlt : B + 1 < W.heap.size := (Array.getElem?_eq_some_iff.1 hl).1
    have hy := run_yield (P := P) (args := va) hl (by rw [hrc]; exact hps i x va W henc)
    rw [hrc] at hy
    refine ⟨fn, _, assign, body, hy, roundIn_of_wpIn hfn (hassign _ i x va D1 W _ hx henc hi (by omega) ?_)⟩
    intro a' W' him hfa
    have hl1 := (hfa.block _ hlt (fun h => h)).trans hl
    have hlt1 : B + 1 < W'.heap.size := (Array.getElem?_eq_some_iff.1 hl1).1
    have hk1 := (hfa.block B (by omega) (fun h => h)).trans hk
    refine ⟨_, run_beginRound hl1 (by rw [hrc]), ?_⟩
    obtain ⟨W2, hW2⟩ : ∃ W2, W2 = W'.putObj (B + 1) (.loop { rc .ready none with state := .busy }) := ⟨_, rfl⟩
    rw [← hW2]
    have hl2 : W2.heap[B + 1]? = some (.loop { rc .ready none with state := .busy }) := by rw [hW2]; exact World.putObj_heap_same hlt1
    have hk2 : W2.heap[B]? = some (.deferred (some [])) := by rw [hW2]; exact (World.putObj_heap_other (by omega)).trans hk1
    have hfp : Fr (fun k => k = B + 1) W' W2 := by rw [hW2]; exact Fr.putObj _ _ _ _ rfl
    have hnd : ∀ k, k = B ∨ k = B + 1 → ¬ D1 k := fun k hk h => by have := hown _ _ _ hi _ h; omega
    have fin : ∀ (jump : Option Code) (W3 : World), Fr D1 W2 W3 →
        (Instr.endRound (B + 1) jump).run P W3 = .ok (.bool jump.isNone) (W3.putObj (B + 1) (.loop (rc (if jump.isNone then .ready else .done) jump))) ∧
        (W3.putObj (B + 1) (.loop (rc (if jump.isNone then .ready else .done) jump))).heap[B + 1]? = some (.loop (rc (if jump.isNone then .ready else .done) jump)) ∧
        (W3.putObj (B + 1) (.loop (rc (if jump.isNone then .ready else .done) jump))).heap[B]? = some (.deferred (some [])) := fun jump W3 h3 => by
      have hl3 := (h3.block _ (Array.getElem?_eq_some_iff.1 hl2).1 (hnd _ (.inr rfl))).trans hl2
      have hk3 := (h3.block B (Array.getElem?_eq_some_iff.1 hk2).1 (hnd _ (.inl rfl))).trans hk2
      have h := run_endRound (P := P) jump hl3
      rw [hrc] at h ⊢
      exact ⟨h, World.putObj_heap_same (Array.getElem?_eq_some_iff.1 hl3).1, (World.putObj_heap_other (by omega)).trans hk3⟩
    refine wpIn_mono (hbody _ i x a' D1 W2 hx (hIm _ _ _ _ _ _ him hfp) (by have := (Array.getElem?_eq_some_iff.1 hl2).1; omega)) ?_
    rintro e a3 W3 hp
    cases e with
    | normal =>
      obtain ⟨D2, hi3, h3, hd3⟩ := hp
      obtain ⟨hr, hl4, hk4⟩ := fin none W3 h3
      refine ⟨_, _, hr, .inl ⟨rfl, fun k => D2 k ∨ k = B + 1, ⟨D2, hI _ _ _ _ hi3 (Fr.putObj _ _ _ _ ⟨by omega, fun h => by have := hown _ _ _ hi3 _ h; omega⟩), hl4, hk4, fun k => Iff.rfl⟩, ?_, ?_⟩⟩
      · refine (hfa.mono (fun k _ h => h.elim)).trans ((hfp.mono (fun k _ h => (hd k).2 (.inr h))).trans ((h3.mono (fun k _ h => (hd k).2 (.inl h))).trans (Fr.putObj _ _ _ _ ((hd _).2 (.inr rfl)))))
      · intro k h
        rcases h with h | h
        · rcases hd3 k h with h | h
          · exact .inl ((hd k).2 (.inl h))
          · exact .inr (Nat.le_trans (Nat.le_trans hfa.size hfp.size) h)
        · exact .inl ((hd k).2 (.inr h))
    | ret =>
      obtain ⟨hc, h3⟩ := hp
      obtain ⟨hr, hl4, hk4⟩ := fin (some .ret) W3 h3
      exact ⟨_, _, hr, .inr ⟨rfl, .ret, hIx _ _ _ hc (Fr.putObj _ _ _ _ rfl), hl4, hk4⟩⟩
    | exit id =>
      obtain ⟨hc, h3⟩ := hp
      obtain ⟨hr, hl4, hk4⟩ := fin (some (.exit id)) W3 h3
      exact ⟨_, _, hr, .inr ⟨rfl, .exit id, hIx _ _ _ hc (Fr.putObj _ _ _ _ rfl), hl4, hk4⟩⟩
    | goto t =>
      obtain ⟨hc, h3⟩ := hp
      obtain ⟨hr, hl4, hk4⟩ := fin (some (.goto t)) W3 h3
      exact ⟨_, _, hr, .inr ⟨rfl, .goto t, hIx _ _ _ hc (Fr.putObj _ _ _ _ rfl), hl4, hk4⟩⟩
    | panic ch => exact hp.elim
    | outgrown => exact hp.elim
end Go.Proofs.YtnfodiedalhlhaaDoor
end
section
namespace Go.Proofs.YtnfodiedalhlhaaDoor
open Go.RowKit Go.Shelf
attribute [local go_sem] Oper.semAt_some
def EncT (R : Nat → Prop) (i : Nat) (x : Nd × To) (va : Array Value) (W : World) : Prop :=
  ∃ o1 l1 c1 o2 l2 c2, va = #[.int .i64 (i : Int), tmv x.1 o1 l1 c1 o2 l2 c2] ∧ SlcIn R W o1 l1 x.1.tp ∧ TSlc R W o2 l2 x.2
structure Boxes (nb yb wb l : Nat) (W : World) (i : Nat) : Prop where
  n : W.heap[nb]? = some (.cells #[.int .i64 (i : Int)] 3 (0, 0))
  y : W.heap[yb]? = some (.cells #[.func (.yield l) #[] #[]] 99 (0, 0))
  w : W.heap[wb]? = some (.cells #[.func (.func 82) #[] #[.pointer (some ⟨nb, 0, none⟩), .pointer (some ⟨yb, 0, none⟩), .pointer (some ⟨wb, 0, none⟩)]] 38 (0, 0))
theorem Boxes.fr {nb yb wb l : Nat} {S : Nat → Prop} {W W' : World} {i : Nat} (h : Boxes nb yb wb l W i) (hf : Fr S W W') (h1 : ¬ S nb) (h2 : ¬ S yb) (h3 : ¬ S wb) : Boxes nb yb wb l W' i :=
  ⟨(hf.block _ (lt_of_block h.n) h1).trans h.n, (hf.block _ (lt_of_block h.y) h2).trans h.y, (hf.block _ (lt_of_block h.w) h3).trans h.w⟩
theorem cnt_step : ∀ (f : To) (m : Nat) (h : Nd) (qs : To), f.get m = some (h, qs) → (f.drop m).size = 1 + qs.size + (f.drop (m + 1)).size ∧ (f.drop m).size ≤ f.size ∧ ∀ j x, (To.cons h qs .nil).flat[j]? = some x → f.flat[f.size - (f.drop m).size + j]? = some x
  | .nil, m, h, qs, e => by simp [To.get] at e
  | .cons h' ps r, 0, h, qs, e => by
    simp [To.get] at e
    obtain ⟨rfl, rfl⟩ := e
    refine ⟨by simp [To.drop, To.drop_zero, To.size]; omega, by simp [To.drop], fun j x hj => ?_⟩
    have hlt := (List.getElem?_eq_some_iff.1 hj).1
    simp only [To.drop, Nat.sub_self, Nat.zero_add]
    rw [show (To.cons h' ps r).flat = (To.cons h' ps .nil).flat ++ r.flat from by simp [To.flat], List.getElem?_append_left hlt]
    exact hj
  | .cons h' ps r, m + 1, h, qs, e => by
    obtain ⟨e1, e2, e3⟩ := cnt_step r m h qs e
    simp only [To.drop]
    refine ⟨e1, by simp only [To.size]; omega, fun j x hj => ?_⟩
    have h3 := e3 j x hj
    rw [show (To.cons h' ps r).flat = ((h', ps) :: ps.flat) ++ r.flat from by simp [To.flat], List.getElem?_append_right (by simp [To.size, To.flat_length]; omega)]
    rw [← h3]
    congr 1
    simp [To.size, To.flat_length]; omega
section
variable (R : Nat → Prop) (l nb yb wb L0 : Nat) (xs : List (Nd × To)) (J : Nat → (Nat → Prop) → World → Prop) (Jx : World → Prop)
def TWalk (h : Nd) (ps : To) : Prop := ∀ (n i : Nat) (D : Nat → Prop) (W : World) (o1 : Option Addr) (l1 c1 : Nat) (o2 : Option Addr) (l2 c2 : Nat), J i D W → Boxes nb yb wb l W i → SlcIn R W o1 l1 h.tp → TSlc R W o2 l2 ps →
  (∀ k, D k → k ≠ nb ∧ k ≠ yb ∧ k ≠ wb) → (∀ j x, (To.cons h ps .nil).flat[j]? = some x → xs[i + j]? = some x) → i + ps.size + 1 ≤ 1000000 →
  CallsIn Fence.wide n Tryd.prog 82 #[tmv h o1 l1 c1 o2 l2 c2, .pointer (some ⟨nb, 0, none⟩), .pointer (some ⟨yb, 0, none⟩), .pointer (some ⟨wb, 0, none⟩)] W fun e W' =>
    (e = .returned (.bool true) ∧ ∃ D', J (i + ps.size + 1) D' W' ∧ Boxes nb yb wb l W' (i + ps.size + 1) ∧ Fr (fun k => D k ∨ k = nb) W W' ∧ ∀ k, D' k → D k ∨ W.heap.size ≤ k) ∨ (e = .returned (.bool false) ∧ Jx W')
end
set_option maxHeartbeats 4000000 in
set_option maxRecDepth 100000 in
theorem walk_any (R : Nat → Prop) (l nb yb wb L0 : Nat) (xs : List (Nd × To)) (J : Nat → (Nat → Prop) → World → Prop) (Jx : World → Prop)
    (hRb : ∀ k, R k → k < L0) (hnb : L0 ≤ nb ∧ L0 ≤ yb ∧ L0 ≤ wb ∧ nb ≠ yb ∧ nb ≠ wb)
    (hown : ∀ i D A, J i D A → ∀ k, D k → k < A.heap.size ∧ ¬ R k)
    (hst : ∀ i D A B, J i D A → Fr (fun k => L0 ≤ k ∧ ¬ D k) A B → J i D B)
    (hY : ∀ m i x va D W1, xs[i]? = some x → EncT R i x va W1 → J i D W1 → YieldAt Fence.wide m Tryd.prog l va W1 fun e W' =>
      (e = .returned (.bool true) ∧ ∃ D', J (i + 1) D' W' ∧ Fr D W1 W' ∧ ∀ k, D' k → D k ∨ W1.heap.size ≤ k) ∨ (e = .returned (.bool false) ∧ Jx W'))
    (h : Nd) (ps : To) : TWalk R l nb yb wb xs J Jx h ps := by
  refine To.ind' (T := TWalk R l nb yb wb xs J Jx) ?_ h ps
  intro h ps ih n i D W o1 l1 c1 o2 l2 c2 hJ hB hs ht hD hx hz
  have HS := Lib.hid hs
  have HT := Lib.hid ht
  have IH := Lib.hid ih
  have HD := Lib.hid hD
  have HX := Lib.hid hx
  have hmx := ht.2.1
  have HL := Lib.hid ht.1
  have hlen := To.length_le ps
  unfold maxLen at hmx
  obtain ⟨W1, hW1⟩ : ∃ W1, W1 = W.alloc (.cells (cells9 h o1 l1 c1 o2 l2 c2) 30) := ⟨_, rfl⟩
  obtain ⟨tb, htb⟩ : ∃ tb, tb = W.heap.size := ⟨_, rfl⟩
  have hq1 : Fr (fun _ => False) W W1 := by rw [hW1]; exact Fr.alloc _ _ _
  have hb1 : Boxes nb yb wb l W1 i := hB.fr hq1 (fun h => h) (fun h => h) (fun h => h)
  have ht1 : W1.heap[tb]? = some (.cells (cells9 h o1 l1 c1 o2 l2 c2) 30 (0, 0)) := by rw [hW1, htb]; exact heap_alloc_new _ _
  have hnt : tb ≠ nb ∧ tb ≠ yb ∧ tb ≠ wb := ⟨fun e => by have := lt_of_block hB.n; omega, fun e => by have := lt_of_block hB.y; omega, fun e => by have := lt_of_block hB.w; omega⟩
  obtain ⟨W2, hW2⟩ : ∃ W2, W2 = W1.setCell ⟨nb, 0, none⟩ (.int .i64 ((i : Int) + 1)) := ⟨_, rfl⟩
  have hq2 : Fr (fun k => k = nb) W1 W2 := by rw [hW2]; exact Fr.setCell _ _ _ _ rfl
  have hb2 : Boxes nb yb wb l W2 (i + 1) := ⟨by rw [hW2]; exact one_setCell hb1.n, (hq2.block _ (lt_of_block hb1.y) (fun e => hnb.2.2.2.1 e.symm)).trans hb1.y, (hq2.block _ (lt_of_block hb1.w) (fun e => hnb.2.2.2.2 e.symm)).trans hb1.w⟩
  have ht2 := (hq2.block _ (lt_of_block ht1) hnt.1).trans ht1
  have hJ2 : J i D W2 := hst i D W W2 hJ ((hq1.mono (fun k _ h => h.elim)).trans (hq2.mono (fun k _ e => ⟨by omega, fun hd => (hD k hd).1 (by omega)⟩)))
  have hs2 : SlcIn R W2 o1 l1 h.tp := (hs.fr hq1 (fun k _ hk => ⟨hk, fun h => h⟩)).fr hq2 (fun k _ hk => ⟨hk, fun e => by have := hRb k hk; omega⟩)
  have ht3 : TSlc R W2 o2 l2 ps := (ht.fr hq1 (fun k _ hk => ⟨hk, fun h => h⟩)).fr hq2 (fun k _ hk => ⟨hk, fun e => by have := hRb k hk; omega⟩)
  have hsz1 : W1.heap.size = tb + 1 := by rw [hW1, htb]; simp
  have hsz2 : W1.heap.size ≤ W2.heap.size := hq2.size
  have HSZ := Lib.hid (And.intro hsz1 hsz2)
  have hy := fun m => hY m i (h, ps) #[.int .i64 (i : Int), tmv h o1 l1 c1 o2 l2 c2] D W2 (by have := hx 0 (h, ps) rfl; simpa using this) ⟨o1, l1, c1, o2, l2, c2, rfl, hs2, ht3⟩ hJ2
  obtain ⟨fn, tmps, assign, body, hyr, hR⟩ := hy (n - 1)
  have HR := Lib.hid hR
  have HW12 : Hid (Fr (fun k => D k ∨ k = nb) W W2) := (hq1.mono (fun k _ h => h.elim)).trans (hq2.mono (fun k _ e => .inr e))
  have cn1 := cell_of_one hb1.n
  have zn1 := free_of_one hb1.n
  have cy2 := cell_of_one hb2.y
  have cw2 := cell_of_one hb2.w
  have cn2 := cell_of_one hb2.n
  have HB2 := Lib.hid hb2
  have HT2 := Lib.hid ht2
  have HJ2 := Lib.hid hJ2
  obtain ⟨a0, a1, a2, a3, a4, a5, a6, a7, a8⟩ := cells9_block ht2
  have HW1 := Lib.hid hW1
  have HW2 := Lib.hid hW2
  have hW2' : W2 = (W.alloc (.cells (cells9 h o1 l1 c1 o2 l2 c2) 30)).setCell ⟨nb, 0, none⟩ (.int .i64 ((i : Int) + 1)) := by rw [hW2, hW1]
  rw [hW1] at cn1 zn1
  have HTS := Lib.hid ht3
  have HTL : Hid (tb < W2.heap.size) := lt_of_block ht2
  have HDW : Hid (∀ k, D k → k < tb) := fun k hk => by rw [htb]; exact (hown _ _ _ hJ k hk).1
  have HST := Lib.hid hst
  clear hs ht ih hD hx hJ hB hq1 hq2 hb1 ht1 hb2 ht2 hJ2 hs2 ht3 hy hR hY hst hsz1 hsz2
  unfold tmv
  refine callsIn_of_wp Tryd.func82 rfl trivial ?_ rfl
  simp only [Tryd.ntmps82, List.size_toArray, List.length_cons, List.length_nil, Nat.reduceAdd, Nat.reduceSub, Array.replicate_succ, Array.replicate_zero, List.push_toArray, List.append_toArray, List.nil_append, List.cons_append]
  gi_upto_region 2 with fail
  change Code.wpIn _ _ _ _ _ _ ((W.alloc (.cells (cells9 h o1 l1 c1 o2 l2 c2) 30)).setCell ⟨nb, 0, none⟩ (.int .i64 ((i : Int) + 1)))
  rw [← hW2', ← htb]
  clear hW2' hW2 hW1 htb cn1 zn1
  unfold tmv at hyr
  gi_wp2
  refine ⟨fun h => (by cases h), HR.out.mono ?_⟩
  rintro e W3 (⟨rfl, D3, hJ3, hf3, hd3⟩ | ⟨rfl, hx3⟩)
  · have hb3 := HB2.out.fr hf3 (fun hk => (HD.out _ hk).1 rfl) (fun hk => (HD.out _ hk).2.1 rfl) (fun hk => (HD.out _ hk).2.2 rfl)
    have htD : ¬ D tb := fun hk => by have := (hown _ _ _ HJ2.out _ hk).1; have := HTL.out; have := HDW.out _ hk; omega
    have ht3 := (hf3.block _ (lt_of_block HT2.out) htD).trans HT2.out
    have HB3 := Lib.hid hb3
    have HT3 := Lib.hid ht3
    have HJ3 := Lib.hid hJ3
    have HF3 := Lib.hid hf3
    have HD3 := Lib.hid hd3
    have HS3 : Hid (TSlc R W3 o2 l2 ps) := HTS.out.fr hf3 (fun k _ hk => ⟨hk, fun hd => (hown _ _ _ HJ2.out k hd).2 hk⟩)
    clear a0 a1 a2 a3 a4 a5 a6 a7 a8 cn2 cy2 cw2
    obtain ⟨a0, a1, a2, a3, a4, a5, a6, a7, a8⟩ := cells9_block ht3
    clear hJ3 hf3 hd3 hb3 ht3
    gi_wp2
    gi_loopw [19] (fun t wr => ∃ (m : Nat) (D' : Nat → Prop), t = .int .i64 m ∧ m ≤ l2 ∧ J (i + 1 + (ps.size - (ps.drop m).size)) D' wr ∧ Boxes nb yb wb l wr (i + 1 + (ps.size - (ps.drop m).size)) ∧ Fr (fun k => D3 k ∨ k = nb ∨ W3.heap.size ≤ k) W3 wr ∧ ∀ k, D' k → D3 k ∨ W3.heap.size ≤ k) (fun t wr => l2 - (intOf t).toNat)
    case atStart => exact ⟨0, D3, rfl, Nat.zero_le _, by rw [To.drop_zero, Nat.sub_self]; exact HJ3.out, by rw [To.drop_zero, Nat.sub_self]; exact HB3.out, Fr.refl _ _, fun k hk => .inl hk⟩
    case round =>
      obtain ⟨m, D', rfl, hm, hj, hb, hf, hd⟩ := hrel
      by_cases hlt : m < l2
      · have hlt' : (m : Int) < l2 := by omega
        have hts : TSlc R wr o2 l2 ps := HS3.out.fr hf (fun k hk hr => ⟨hr, fun hs => by
          rcases hs with hs | hs | hs
          · exact (hown _ _ _ HJ3.out k hs).2 hr
          · have := hRb k hr; omega
          · omega⟩)
        obtain ⟨b, off, hd1, qs, p1, m1, d1, p2, m2, d2, rfl, hdr, hg, hRbb, hc9, hs1, ht1⟩ := hts.nth hlt
        obtain ⟨q1, q2, q3⟩ := cnt_step ps m hd1 qs hg
        obtain ⟨W4, hW4⟩ : ∃ W4, W4 = wr.alloc (.cells (cells9 hd1 p1 m1 d1 p2 m2 d2) 30) := ⟨_, rfl⟩
        have hq4 : Fr (fun _ => False) wr W4 := by rw [hW4]; exact Fr.alloc _ _ _
        have hc4 : Cells9 W4 wr.heap.size 0 hd1 p1 m1 d1 p2 m2 d2 := by rw [hW4]; exact cells9_new _ _ _ _ _ _ _ _ _
        have hnd : ∀ k, D' k → k ≠ nb ∧ k ≠ yb ∧ k ≠ wb := fun k hk => by
          have e1 := lt_of_block HB3.out.n
          have e2 := lt_of_block HB3.out.y
          have e3 := lt_of_block HB3.out.w
          rcases hd k hk with h | h
          · rcases HD3.out k h with h | h
            · exact HD.out k h
            · have f1 := lt_of_block HB2.out.n
              have f2 := lt_of_block HB2.out.y
              have f3 := lt_of_block HB2.out.w
              omega
          · omega
        have HC := Lib.hid (IH.out m hd1 qs hg (n - 1) (i + 1 + (ps.size - (ps.drop m).size)) D' W4 p1 m1 d1 p2 m2 d2 (HST.out _ _ _ _ hj (hq4.mono (fun k _ h => h.elim))) (hb.fr hq4 (fun h => h) (fun h => h) (fun h => h)) (hs1.fr hq4 (fun k _ hk => ⟨hk, fun h => h⟩)) (ht1.fr hq4 (fun k _ hk => ⟨hk, fun h => h⟩)) hnd
          (fun j x hj => by
            have h1 := q3 j x hj
            have h2 := HX.out (1 + (ps.size - (ps.drop m).size) + j) x (by
              rw [show 1 + (ps.size - (ps.drop m).size) + j = (ps.size - (ps.drop m).size + j) + 1 from by omega]
              simpa [To.flat] using h1)
            rw [← h2]; congr 1; omega) (by omega))
        have HEQ : Hid (i + 1 + (ps.size - (ps.drop m).size) + qs.size + 1 = i + 1 + (ps.size - (ps.drop (m + 1)).size)) := by show _ = _; have := To.size_drop ps (m + 1); omega
        have cw4 := cell_of_one (hb.fr hq4 (fun h => h) (fun h => h) (fun h => h)).w
        have HBW := Lib.hid hb
        obtain ⟨z0, z1, z2, z3, z4, z5, z6, z7, z8⟩ := hc9
        obtain ⟨y0, y1, y2, y3, y4, y5, y6, y7, y8⟩ := hc4
        have HF := Lib.hid hf
        have HDD := Lib.hid hd
        have HQ4 := Lib.hid hq4
        unfold tmv at HC
        clear hf hd hj hb hq4 q1 q2 q3 hts hdr hg hs1 ht1 hnd hRbb a0 a1 a2 a3 a4 a5 a6 a7 a8
        gi_upto_region 7 with fail
        change Code.wpIn _ _ _ _ _ _ (wr.alloc (.cells (cells9 hd1 p1 m1 d1 p2 m2 d2) 30))
        rw [← hW4]
        generalize wr.heap.size = pb at *
        clear hW4 z0 z1 z2 z3 z4 z5 z6 z7 z8
        gi_wp2
        refine ⟨trivial, fun h => (by cases h), HC.out.mono ?_⟩
        rintro e W5 (⟨rfl, D5, hj5, hb5, hf5, hd5⟩ | ⟨rfl, hx5⟩)
        · rw [HEQ.out] at hj5 hb5
          have HFF : Hid (Fr (fun k => D3 k ∨ k = nb ∨ W3.heap.size ≤ k) W3 W5) := (HF.out.trans (HQ4.out.mono (fun k _ h => h.elim))).trans (hf5.mono (fun k _ hk => by
            rcases hk with h | h
            · rcases HDD.out k h with h | h
              · exact .inl h
              · exact .inr (.inr h)
            · exact .inr (.inl h)))
          have HDF : Hid (∀ k, D5 k → D3 k ∨ W3.heap.size ≤ k) := fun k hk => by
            rcases hd5 k hk with h | h
            · exact HDD.out k h
            · have := HF.out.size; have := HQ4.out.size; exact .inr (by omega)
          have HJ5 := Lib.hid hj5
          have HB5 := Lib.hid hb5
          clear hj5 hb5 hf5 hd5
          gi_wp2
          go_roundw
          case rel => exact ⟨m + 1, D5, by go_num, by omega, HJ5.out, HB5.out, HFF.out, HDF.out⟩
          case measure => simp [intOf]; omega
        · gi_wp2
          go_ret
          exact .inr ⟨rfl, hx5⟩
      · have hlt' : ¬ (m : Int) < l2 := by omega
        have hme : ps.drop m = .nil := To.drop_end ps m (by have := HL.out; omega)
        rw [hme] at hj hb
        have HJE := Lib.hid hj
        have HBE := Lib.hid hb
        have HFE := Lib.hid hf
        have HDE := Lib.hid hd
        clear hj hb hf hd hme
        gi_wp2
        go_ret
        have h1 := HJE.out
        have h2 := HBE.out
        rw [show i + 1 + (ps.size - To.nil.size) = i + ps.size + 1 from by simp [To.size]; omega] at h1 h2
        refine .inl ⟨rfl, D', h1, h2, ?_, ?_⟩
        · have e1 := HW12.out.size
          have e2 := HF3.out.size
          refine (HW12.out.trans (HF3.out.mono (fun k _ h => .inl h))).trans' HFE.out (fun k hk h => ?_)
          rcases h with h | h | h
          · rcases HD3.out k h with h | h
            · exact .inl h
            · omega
          · exact .inr h
          · omega
        · intro k hk
          rcases HDE.out k hk with h | h
          · rcases HD3.out k h with h | h
            · exact .inl h
            · have := HW12.out.size; exact .inr (by omega)
          · have := HW12.out.size; have := HF3.out.size; exact .inr (by omega)
  · gi_wp2
    go_ret
    exact .inr ⟨rfl, hx3⟩
set_option maxHeartbeats 4000000 in
set_option maxRecDepth 100000 in
theorem all_seq (n : Nat) (R : Nat → Prop) (h : Nd) (ps : To) (o1 : Option Addr) (l1 c1 : Nat) (o2 : Option Addr) (l2 c2 tb : Nat) (w : World) (hRw : ∀ k, R k → k < w.heap.size)
    (hb : w.heap[tb]? = some (.cells (cells9 h o1 l1 c1 o2 l2 c2) 30 (0, 0))) (_ : R tb) (hs : SlcIn R w o1 l1 h.tp) (ht : TSlc R w o2 l2 ps) (hz : ps.size ≤ 100000) :
    SeqC n Tryd.prog 81 #[.pointer (some ⟨tb, 0, none⟩)] (EncT R) R (To.cons h ps .nil).flat w := by
  intro l J Jx W D0 hW hown hst hstx hY hJ
  obtain ⟨W2, hW2⟩ : ∃ W2, W2 = ((W.alloc (.cells #[.func (.yield l) #[] #[]] 99)).alloc (.cells #[.int .i64 0] 3)).alloc (.cells #[.nilFunc] 38) := ⟨_, rfl⟩
  obtain ⟨W3, hW3⟩ : ∃ W3, W3 = W2.setCell ⟨W.heap.size + 1 + 1, 0, none⟩ (.func (.func 82) #[] #[.pointer (some ⟨W.heap.size + 1, 0, none⟩), .pointer (some ⟨W.heap.size, 0, none⟩), .pointer (some ⟨W.heap.size + 1 + 1, 0, none⟩)]) := ⟨_, rfl⟩
  have hf2 : Fr (fun _ => False) W W2 := by rw [hW2]; exact ((Fr.alloc _ _ _).trans (Fr.alloc _ _ _)).trans (Fr.alloc _ _ _)
  have hf23 : Fr (fun k => k = W.heap.size + 1 + 1) W2 W3 := by rw [hW3]; exact Fr.setCell _ _ _ _ rfl
  have hf3 : Fr (fun _ => False) W W3 := hf2.trans' hf23 (fun k hk e => by omega)
  have hw2 : W2.heap[W.heap.size + 1 + 1]? = some (.cells #[.nilFunc] 38 (0, 0)) := by
    rw [hW2]
    have := heap_alloc_new ((W.alloc (.cells #[.func (.yield l) #[] #[]] 99)).alloc (.cells #[.int .i64 0] 3)) (.cells #[.nilFunc] 38)
    simpa using this
  have hB3 : Boxes (W.heap.size + 1) W.heap.size (W.heap.size + 1 + 1) l W3 0 := by
    refine ⟨?_, ?_, ?_⟩
    · rw [hf23.block _ (by rw [hW2]; simp) (by omega), hW2, Below.heap_alloc _ _ _ (by simp)]
      have := heap_alloc_new (W.alloc (.cells #[.func (.yield l) #[] #[]] 99)) (.cells #[.int .i64 0] 3)
      simpa using this
    · rw [hf23.block _ (by rw [hW2]; simp; omega) (by omega), hW2, Below.heap_alloc _ _ _ (by simp; omega), Below.heap_alloc _ _ _ (by simp)]
      exact heap_alloc_new W _
    · rw [hW3]
      exact one_setCell hw2
  have hle := hW.size
  have hwf := hW.trans hf3
  have hb3 := (hwf.block _ (lt_of_block hb) (fun h => h)).trans hb
  have cw2 := cell_of_one hw2
  have zw2 := free_of_one hw2
  have HC := Lib.hid (walk_any R l (W.heap.size + 1) W.heap.size (W.heap.size + 1 + 1) W.heap.size (To.cons h ps .nil).flat J Jx (fun k hk => by have := hRw k hk; omega) (by omega) hown hst
    (fun m i x va D W1 hx he hj => yield_any m (hY i x va D W1 hx he hj)) h ps (n - 1) 0 D0 W3 o1 l1 c1 o2 l2 c2 (hst 0 D0 W W3 hJ (hf3.mono (fun k _ h => h.elim))) hB3
    (hs.fr hwf (fun k _ hk => ⟨hk, fun h => h⟩)) (ht.fr hwf (fun k _ hk => ⟨hk, fun h => h⟩)) (fun k hk => by have := (hown 0 D0 W hJ k hk).1; omega) (fun j x hx => by rw [Nat.zero_add]; exact hx) (by omega))
  have HLN : Hid (0 + ps.size + 1 = (To.cons h ps .nil).flat.length) := by show _ = _; rw [To.flat_length]; simp [To.size]
  have cw := cell_of_one hB3.w
  obtain ⟨a0, a1, a2, a3, a4, a5, a6, a7, a8⟩ := cells9_block hb3
  have HBL := Lib.hid hB3
  unfold tmv at HC
  clear hb3 hB3 hs ht hY hJ hst hstx hown hb hwf hf3 hf2 hf23 hw2
  refine callsIn_of_wp Tryd.func81 rfl trivial ?_ rfl
  simp only [Tryd.ntmps81, List.size_toArray, List.length_cons, List.length_nil, Nat.reduceAdd, Nat.reduceSub, Array.replicate_succ, Array.replicate_zero, List.push_toArray, List.append_toArray, List.nil_append, List.cons_append]
  have HW3 := Lib.hid hW3
  clear hW3
  gi_upto_region 3 with fail
  rw [← hW2]
  clear hW2
  gi_upto_region 4 with fail
  rw [← HW3.out]
  clear HW3 cw2 zw2
  gi_wp2
  refine ⟨trivial, fun h => (by cases h), HC.out.mono ?_⟩
  rintro e W5 (⟨rfl, D5, hj5, hb5, hf5, hd5⟩ | ⟨rfl, hx5⟩)
  · rw [HLN.out] at hj5
    gi_wp2
    go_end0
    exact ⟨⟨_, rfl⟩, .inl ⟨D5, hj5⟩⟩
  · gi_wp2
    go_end0
    exact ⟨⟨_, rfl⟩, .inr hx5⟩
theorem all_call (h : Nd) (o1 : Option Addr) (l1 c1 : Nat) (o2 : Option Addr) (l2 c2 : Nat) (w : World) :
    Calls Tryd.prog 46 #[tmv h o1 l1 c1 o2 l2 c2] w fun e w' => e = .returned (.func (.func 81) #[] #[.pointer (some ⟨w.heap.size, 0, none⟩)]) ∧ w' = w.alloc (.cells (cells9 h o1 l1 c1 o2 l2 c2) 30) := by
  unfold tmv
  go_enter Tryd.func46, Tryd.ntmps46
  go_wp2_with fail
  go_ret
  exact ⟨rfl, rfl⟩
end Go.Proofs.YtnfodiedalhlhaaDoor
end
section
namespace Go.Proofs.YtnfodiedalhlhaaDoor
open Go.RowKit Go.Shelf
attribute [local go_sem] Oper.semAt_some
theorem encT_size {R : Nat → Prop} {i : Nat} {x : Nd × To} {va : Array Value} {W : World} (h : EncT R i x va W) : va.size = 2 := by
  obtain ⟨o1, l1, c1, o2, l2, c2, rfl, _⟩ := h; rfl
end Go.Proofs.YtnfodiedalhlhaaDoor
end
