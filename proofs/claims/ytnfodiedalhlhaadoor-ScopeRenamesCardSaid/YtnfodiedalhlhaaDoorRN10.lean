/-
  Texts laid together (ScCall, ScRFree, TeCopy): laws and walks, with their conditions in their statements.
-/
import Derived.Test.YtnfodiedalhlhaaDoorRN9
section
namespace Go.Proofs.YtnfodiedalhlhaaDoor
namespace Sc
section
variable (ok : ByteArray → Bool)
def newNm (h : Nd) (l : List ByteArray) : ByteArray := match l with
  | [] => h.nm
  | a :: _ => if bindK h.k && ok a then a else h.nm
def restNm (h : Nd) (l : List ByteArray) : List ByteArray := if bindK h.k then l.tail else l
def varNm (x y : List ByteArray) (s : ByteArray) : ByteArray := if 0 ≤ ix x s then y.getD (ix x s).toNat ByteArray.empty else s
def callR : Int → ByteArray → ByteArray → Nat → List ByteArray → List ByteArray → List ByteArray → To → To × List ByteArray
  | _, _, _, _, _, _, l, .nil => (.nil, l)
  | bk, nm, nm2, i, x, y, l, .cons h ps r =>
    let q : Nd × To × List ByteArray := if h.k = 1 then ({ h with nm := varNm (envOf bk nm i x) (envOf bk nm2 i y) h.nm }, ps, l) else
      ({ h with nm := newNm ok h l }, (callR h.k h.nm (newNm ok h l) 0 (envOf bk nm i x) (envOf bk nm2 i y) (restNm h l) ps).1, (callR h.k h.nm (newNm ok h l) 0 (envOf bk nm i x) (envOf bk nm2 i y) (restNm h l) ps).2)
    (.cons q.1 q.2.1 (callR bk nm nm2 (i + 1) x y q.2.2 r).1, (callR bk nm nm2 (i + 1) x y q.2.2 r).2)
def call1 (x y l : List ByteArray) (h : Nd) (ps : To) : Nd × To × List ByteArray :=
  if h.k = 1 then ({ h with nm := varNm x y h.nm }, ps, l) else
    ({ h with nm := newNm ok h l }, (callR ok h.k h.nm (newNm ok h l) 0 x y (restNm h l) ps).1, (callR ok h.k h.nm (newNm ok h l) 0 x y (restNm h l) ps).2)
theorem callR_cons (bk : Int) (nm nm2 : ByteArray) (i : Nat) (x y l : List ByteArray) (h : Nd) (ps r : To) : callR ok bk nm nm2 i x y l (.cons h ps r) =
    (.cons (call1 ok (envOf bk nm i x) (envOf bk nm2 i y) l h ps).1 (call1 ok (envOf bk nm i x) (envOf bk nm2 i y) l h ps).2.1 (callR ok bk nm nm2 (i + 1) x y (call1 ok (envOf bk nm i x) (envOf bk nm2 i y) l h ps).2.2 r).1,
      (callR ok bk nm nm2 (i + 1) x y (call1 ok (envOf bk nm i x) (envOf bk nm2 i y) l h ps).2.2 r).2) := rfl
theorem callR_length : ∀ (f : To) (bk : Int) (nm nm2 : ByteArray) (i : Nat) (x y l : List ByteArray), (callR ok bk nm nm2 i x y l f).1.length = f.length
  | .nil, _, _, _, _, _, _, _ => rfl
  | .cons h ps r, bk, nm, nm2, i, x, y, l => by rw [callR_cons]; simp only [To.length]; rw [callR_length r]
theorem callR_size : ∀ (f : To) (bk : Int) (nm nm2 : ByteArray) (i : Nat) (x y l : List ByteArray), (callR ok bk nm nm2 i x y l f).1.size = f.size
  | .nil, _, _, _, _, _, _, _ => rfl
  | .cons h ps r, bk, nm, nm2, i, x, y, l => by
    rw [callR_cons]; simp only [To.size]; rw [callR_size r]
    unfold call1
    by_cases hk : h.k = 1
    · simp only [if_pos hk]
    · simp only [if_neg hk]; rw [callR_size ps]
theorem call1_head (x y l : List ByteArray) (h : Nd) (ps : To) : ∃ s, (call1 ok x y l h ps).1 = { h with nm := s } := by
  unfold call1; split
  · exact ⟨_, rfl⟩
  · exact ⟨_, rfl⟩
theorem callR_all {G : Nd → Prop} (hG : ∀ h s, G h → G { h with nm := s }) : ∀ (f : To) (bk : Int) (nm nm2 : ByteArray) (i : Nat) (x y l : List ByteArray), allT G f → allT G (callR ok bk nm nm2 i x y l f).1
  | .nil, _, _, _, _, _, _, _, _ => trivial
  | .cons h ps r, bk, nm, nm2, i, x, y, l, ⟨h1, h2, h3⟩ => by
    rw [callR_cons]
    refine ⟨?_, ?_, callR_all hG r _ _ _ _ _ _ _ h3⟩
    · obtain ⟨s, hs⟩ := call1_head ok (envOf bk nm i x) (envOf bk nm2 i y) l h ps
      rw [hs]; exact hG h s h1
    · unfold call1; split
      · exact h2
      · exact callR_all hG ps _ _ _ _ _ _ _ h2
end
theorem refA1_refl_aux : ∀ (f : To) (bk : Int) (nm : ByteArray) (i : Nat) (x : List ByteArray), refAR bk nm bk nm i x x f f = true
  | .nil, _, _, _, _ => rfl
  | .cons h ps r, bk, nm, i, x => by
    rw [refAR_cons, refA1_refl_aux r, Bool.and_true]
    unfold refA1
    have := refA1_refl_aux ps h.k h.nm 0 (envOf bk nm i x)
    have hs : sameT h.tk h.tn h.tp h.tk h.tn h.tp = true := by unfold sameT; simp [Fo.same_refl]
    rw [hs]
    by_cases h1 : h.k = 1
    · simp [h1]
    · simp [h1, this]
theorem refA1_refl (x : List ByteArray) (h : Nd) (ps : To) : refA1 x x h ps h ps = true := by
  have := refA1_refl_aux (.cons h ps .nil) 0 ByteArray.empty 0 x
  rw [refAR_cons] at this
  simp only [Bool.and_eq_true] at this
  exact this.1
def freeL : Int → ByteArray → Nat → List ByteArray → To → List Nd
  | _, _, _, _, .nil => []
  | bk, nm, i, e, .cons h ps r => (if h.k = 1 then (if ix (envOf bk nm i e) h.nm < 0 then [h] else []) else freeL h.k h.nm 0 (envOf bk nm i e) ps) ++ freeL bk nm (i + 1) e r
def free1 (e : List ByteArray) (h : Nd) (ps : To) : List Nd := if h.k = 1 then (if ix e h.nm < 0 then [h] else []) else freeL h.k h.nm 0 e ps
theorem freeL_cons (bk : Int) (nm : ByteArray) (i : Nat) (e : List ByteArray) (h : Nd) (ps r : To) : freeL bk nm i e (.cons h ps r) = free1 (envOf bk nm i e) h ps ++ freeL bk nm (i + 1) e r := rfl
def frS (s : List Nd) (x : Nd) (e : List ByteArray) : List Nd := if ix e x.nm < 0 then s ++ [x] else s
theorem wk_free (out : Nd → List ByteArray → Nd) : ∀ (f : To) (bk : Int) (nm : ByteArray) (i : Nat) (s : List Nd) (e : List ByteArray), (wk frS out bk nm i s e f).1 = s ++ freeL bk nm i e f
  | .nil, _, _, _, s, _ => by simp [wk, freeL]
  | .cons h ps r, bk, nm, i, s, e => by
    rw [wk_cons, freeL_cons]
    simp only
    rw [wk_free out r]
    unfold wk1 free1
    by_cases h1 : h.k = 1
    · simp only [if_pos h1]
      unfold frS
      split <;> simp
    · simp only [if_neg h1]
      rw [wk_free out ps]; simp
theorem wk1_free (out : Nd → List ByteArray → Nd) (s : List Nd) (e : List ByteArray) (h : Nd) (ps : To) : (wk1 frS out s e h ps).1 = s ++ free1 e h ps := by
  unfold wk1 free1
  by_cases h1 : h.k = 1
  · simp only [if_pos h1]; unfold frS; split <;> simp
  · simp only [if_neg h1]; rw [wk_free out ps]
def sameKN : To → To → Prop
  | .nil, .nil => True
  | .cons h ps r, .cons h' ps' r' => h.k = h'.k ∧ h.n = h'.n ∧ sameKN ps ps' ∧ sameKN r r'
  | _, _ => False
theorem sameKN_flat : ∀ f g : To, sameKN f g → f.flat.map (fun t => (t.1.k, t.1.n)) = g.flat.map (fun t => (t.1.k, t.1.n))
  | .nil, .nil, _ => rfl
  | .nil, .cons _ _ _, h => h.elim
  | .cons _ _ _, .nil, h => h.elim
  | .cons h ps r, .cons h' ps' r', ⟨h1, h2, h3, h4⟩ => by
    simp only [To.flat, List.map_cons, List.map_append]
    rw [sameKN_flat ps ps' h3, sameKN_flat r r' h4, h1, h2]
abbrev resR (bk : Int) (nm : ByteArray) (i : Nat) (e : List ByteArray) (f : To) : To := (wk (σ := Unit) (fun s _ _ => s) rsO bk nm i () e f).2
theorem res_cons (bk : Int) (nm : ByteArray) (i : Nat) (e : List ByteArray) (h : Nd) (ps r : To) : resR bk nm i e (.cons h ps r) =
    .cons (if h.k = 1 then rsO h (envOf bk nm i e) else h) (if h.k = 1 then ps else resR h.k h.nm 0 (envOf bk nm i e) ps) (resR bk nm (i + 1) e r) := by
  unfold resR
  rw [wk_cons]
  unfold wk1
  by_cases hk : h.k = 1
  · simp only [if_pos hk]
  · simp only [if_neg hk]
theorem alike_free : ∀ (f g : To) (bk : Int) (nm : ByteArray) (bk' : Int) (nm' : ByteArray) (i : Nat) (x y : List ByteArray), refAR bk nm bk' nm' i x y f g = true → (freeL bk nm i x f = [] ↔ freeL bk' nm' i y g = [])
  | .nil, .nil, _, _, _, _, _, _, _, _ => by simp [freeL]
  | .nil, .cons _ _ _, _, _, _, _, _, _, _, h => by simp [refAR] at h
  | .cons _ _ _, .nil, _, _, _, _, _, _, _, h => by simp [refAR] at h
  | .cons h ps r, .cons h' ps' r', bk, nm, bk', nm', i, x, y, e => by
    rw [refAR_cons, Bool.and_eq_true] at e
    have ih := alike_free r r' _ _ _ _ _ _ _ e.2
    rw [freeL_cons, freeL_cons, List.append_eq_nil_iff, List.append_eq_nil_iff, ih]
    have key : free1 (envOf bk nm i x) h ps = [] ↔ free1 (envOf bk' nm' i y) h' ps' = [] := by
      have e1 := e.1
      unfold refA1 at e1
      simp only [Bool.and_eq_true, beq_iff_eq] at e1
      obtain ⟨⟨⟨k1, k2⟩, k3⟩, k4⟩ := e1
      unfold free1
      by_cases h1 : h.k = 1
      · have h1' : h'.k = 1 := by rw [← k1]; exact h1
        rw [if_pos h1] at k4
        simp only [Bool.and_eq_true, beq_iff_eq] at k4
        rw [if_pos h1, if_pos h1', k4.1]
        split <;> simp
      · have h1' : ¬ h'.k = 1 := by rw [← k1]; exact h1
        rw [if_neg h1] at k4
        simp only [Bool.and_eq_true] at k4
        rw [if_neg h1, if_neg h1']
        exact alike_free ps ps' _ _ _ _ _ _ _ k4.2
    rw [key]
theorem alike_means : ∀ (f g : To) (bk : Int) (nm : ByteArray) (bk' : Int) (nm' : ByteArray) (i : Nat) (x y : List ByteArray), okF f → okF g → refAR bk nm bk' nm' i x y f g = true → freeL bk nm i x f = [] →
    sameKN (resR bk nm i x f) (resR bk' nm' i y g)
  | .nil, .nil, _, _, _, _, _, _, _, _, _, _, _ => trivial
  | .nil, .cons _ _ _, _, _, _, _, _, _, _, _, _, h, _ => by simp [refAR] at h
  | .cons _ _ _, .nil, _, _, _, _, _, _, _, _, _, h, _ => by simp [refAR] at h
  | .cons h ps r, .cons h' ps' r', bk, nm, bk', nm', i, x, y, ⟨f1, f2, f3, f4⟩, ⟨g1, g2, g3, g4⟩, e, hf => by
    rw [refAR_cons, Bool.and_eq_true] at e
    rw [freeL_cons, List.append_eq_nil_iff] at hf
    rw [res_cons, res_cons]
    have e1 := e.1
    unfold refA1 at e1
    simp only [Bool.and_eq_true, beq_iff_eq] at e1
    obtain ⟨⟨⟨k1, k2⟩, k3⟩, k4⟩ := e1
    have ih := alike_means r r' _ _ _ _ _ _ _ f4 g4 e.2 hf.2
    by_cases h1 : h.k = 1
    · have h1' : h'.k = 1 := by rw [← k1]; exact h1
      rw [if_pos h1] at k4
      simp only [Bool.and_eq_true, beq_iff_eq] at k4
      have hx := hf.1
      unfold free1 at hx
      rw [if_pos h1] at hx
      have h0 : 0 ≤ ix (envOf bk nm i x) h.nm := by
        by_cases hc : ix (envOf bk nm i x) h.nm < 0
        · rw [if_pos hc] at hx; simp at hx
        · omega
      simp only [if_pos h1, if_pos h1']
      refine ⟨?_, ?_, by rw [f1 h1, g1 h1']; trivial, ih⟩
      · unfold rsO; rw [if_pos h0, if_pos (by rw [← k4.1]; exact h0)]; exact k1
      · unfold rsO; rw [if_pos h0, if_pos (by rw [← k4.1]; exact h0)]; exact k4.1
    · have h1' : ¬ h'.k = 1 := by rw [← k1]; exact h1
      rw [if_neg h1] at k4
      simp only [Bool.and_eq_true, beq_iff_eq] at k4
      have hx := hf.1
      unfold free1 at hx
      rw [if_neg h1] at hx
      simp only [if_neg h1, if_neg h1']
      exact ⟨k1, k4.1, alike_means ps ps' _ _ _ _ _ _ _ f3 g3 k4.2 hx, ih⟩
end Sc
end Go.Proofs.YtnfodiedalhlhaaDoor
end
section
namespace Go.Proofs.YtnfodiedalhlhaaDoor
open Go.RowKit Go.Shelf
namespace Sc
def varOk (h : Nd) (ps : To) : Prop := h.k = 1 → ps = .nil
def allV : To → Prop
  | .nil => True
  | .cons h ps r => varOk h ps ∧ allV ps ∧ allV r
theorem allV_get : ∀ (f : To) (i : Nat) (h : Nd) (ps : To), allV f → f.get i = some (h, ps) → varOk h ps ∧ allV ps
  | .nil, i, h, ps, _, e => by simp [To.get] at e
  | .cons h ps r, 0, h', ps', hw, e => by
    simp [To.get] at e
    obtain ⟨rfl, rfl⟩ := e
    exact ⟨hw.1, hw.2.1⟩
  | .cons h ps r, i + 1, h', ps', hw, e => allV_get r i h' ps' hw.2.2 e
theorem okF_allV : ∀ f : To, okF f → allV f
  | .nil, _ => trivial
  | .cons _ ps r, hw => ⟨hw.1, okF_allV ps hw.2.2.1, okF_allV r hw.2.2.2⟩
theorem free_len : ∀ (f : To) (bk : Int) (nm : ByteArray) (i : Nat) (e : List ByteArray), (freeL bk nm i e f).length ≤ f.size
  | .nil, _, _, _, _ => Nat.zero_le _
  | .cons h ps r, bk, nm, i, e => by
    have h1 := free_len ps h.k h.nm 0 (envOf bk nm i e)
    have h2 := free_len r bk nm (i + 1) e
    rw [freeL_cons, List.length_append]
    simp only [To.size]
    unfold free1
    split
    · split
      · simp; omega
      · simp; omega
    · omega
theorem free1_len (e : List ByteArray) (h : Nd) (ps : To) : (free1 e h ps).length ≤ ps.size + 1 := by
  have := free_len (.cons h ps .nil) 0 ByteArray.empty 0 e
  rw [freeL_cons] at this
  simp only [To.size, List.length_append] at this
  have he : envOf 0 ByteArray.empty 0 e = e := by unfold envOf bindsB; simp
  rw [he] at this
  simp [freeL] at this
  omega
end Sc
end Go.Proofs.YtnfodiedalhlhaaDoor
end
section
namespace Go.Proofs.YtnfodiedalhlhaaDoor
open Go.RowKit Go.Shelf
def put9 (w : World) (B : Nat) (a0 a1 a2 a3 a4 a5 a6 a7 a8 : Value) : World :=
  ((((((((w.setCell ⟨B, 0, none⟩ a0).setCell ⟨B, 1, none⟩ a1).setCell ⟨B, 2, none⟩ a2).setCell ⟨B, 3, none⟩ a3).setCell ⟨B, 4, none⟩ a4).setCell ⟨B, 5, none⟩ a5).setCell ⟨B, 6, none⟩ a6).setCell ⟨B, 7, none⟩ a7).setCell ⟨B, 8, none⟩ a8
theorem put9_fr (w : World) (B : Nat) (a0 a1 a2 a3 a4 a5 a6 a7 a8 : Value) : Fr (fun k => k = B) w (put9 w B a0 a1 a2 a3 a4 a5 a6 a7 a8) :=
  ((((((((Fr.setCell (fun k => k = B) w ⟨B, 0, none⟩ a0 rfl).trans (Fr.setCell (fun k => k = B) _ ⟨B, 1, none⟩ a1 rfl)).trans (Fr.setCell (fun k => k = B) _ ⟨B, 2, none⟩ a2 rfl)).trans (Fr.setCell (fun k => k = B) _ ⟨B, 3, none⟩ a3 rfl)).trans (Fr.setCell (fun k => k = B) _ ⟨B, 4, none⟩ a4 rfl)).trans (Fr.setCell (fun k => k = B) _ ⟨B, 5, none⟩ a5 rfl)).trans (Fr.setCell (fun k => k = B) _ ⟨B, 6, none⟩ a6 rfl)).trans (Fr.setCell (fun k => k = B) _ ⟨B, 7, none⟩ a7 rfl)).trans (Fr.setCell (fun k => k = B) _ ⟨B, 8, none⟩ a8 rfl)
theorem put9_block {w : World} {B : Nat} {a0 a1 a2 a3 a4 a5 a6 a7 a8 b0 b1 b2 b3 b4 b5 b6 b7 b8 : Value} {t : TypeId} (h : w.heap[B]? = some (.cells #[b0, b1, b2, b3, b4, b5, b6, b7, b8] t (0, 0))) :
    (put9 w B a0 a1 a2 a3 a4 a5 a6 a7 a8).heap[B]? = some (.cells #[a0, a1, a2, a3, a4, a5, a6, a7, a8] t (0, 0)) := by
  have s0 : ((w).setCell ⟨B, 0, none⟩ a0).heap[B]? = some (.cells #[a0, b1, b2, b3, b4, b5, b6, b7, b8] t (0, 0)) := set_block h
  have s1 : ((((w).setCell ⟨B, 0, none⟩ a0)).setCell ⟨B, 1, none⟩ a1).heap[B]? = some (.cells #[a0, a1, b2, b3, b4, b5, b6, b7, b8] t (0, 0)) := set_block s0
  have s2 : ((((((w).setCell ⟨B, 0, none⟩ a0)).setCell ⟨B, 1, none⟩ a1)).setCell ⟨B, 2, none⟩ a2).heap[B]? = some (.cells #[a0, a1, a2, b3, b4, b5, b6, b7, b8] t (0, 0)) := set_block s1
  have s3 : ((((((((w).setCell ⟨B, 0, none⟩ a0)).setCell ⟨B, 1, none⟩ a1)).setCell ⟨B, 2, none⟩ a2)).setCell ⟨B, 3, none⟩ a3).heap[B]? = some (.cells #[a0, a1, a2, a3, b4, b5, b6, b7, b8] t (0, 0)) := set_block s2
  have s4 : ((((((((((w).setCell ⟨B, 0, none⟩ a0)).setCell ⟨B, 1, none⟩ a1)).setCell ⟨B, 2, none⟩ a2)).setCell ⟨B, 3, none⟩ a3)).setCell ⟨B, 4, none⟩ a4).heap[B]? = some (.cells #[a0, a1, a2, a3, a4, b5, b6, b7, b8] t (0, 0)) := set_block s3
  have s5 : ((((((((((((w).setCell ⟨B, 0, none⟩ a0)).setCell ⟨B, 1, none⟩ a1)).setCell ⟨B, 2, none⟩ a2)).setCell ⟨B, 3, none⟩ a3)).setCell ⟨B, 4, none⟩ a4)).setCell ⟨B, 5, none⟩ a5).heap[B]? = some (.cells #[a0, a1, a2, a3, a4, a5, b6, b7, b8] t (0, 0)) := set_block s4
  have s6 : ((((((((((((((w).setCell ⟨B, 0, none⟩ a0)).setCell ⟨B, 1, none⟩ a1)).setCell ⟨B, 2, none⟩ a2)).setCell ⟨B, 3, none⟩ a3)).setCell ⟨B, 4, none⟩ a4)).setCell ⟨B, 5, none⟩ a5)).setCell ⟨B, 6, none⟩ a6).heap[B]? = some (.cells #[a0, a1, a2, a3, a4, a5, a6, b7, b8] t (0, 0)) := set_block s5
  have s7 : ((((((((((((((((w).setCell ⟨B, 0, none⟩ a0)).setCell ⟨B, 1, none⟩ a1)).setCell ⟨B, 2, none⟩ a2)).setCell ⟨B, 3, none⟩ a3)).setCell ⟨B, 4, none⟩ a4)).setCell ⟨B, 5, none⟩ a5)).setCell ⟨B, 6, none⟩ a6)).setCell ⟨B, 7, none⟩ a7).heap[B]? = some (.cells #[a0, a1, a2, a3, a4, a5, a6, a7, b8] t (0, 0)) := set_block s6
  have s8 : ((((((((((((((((((w).setCell ⟨B, 0, none⟩ a0)).setCell ⟨B, 1, none⟩ a1)).setCell ⟨B, 2, none⟩ a2)).setCell ⟨B, 3, none⟩ a3)).setCell ⟨B, 4, none⟩ a4)).setCell ⟨B, 5, none⟩ a5)).setCell ⟨B, 6, none⟩ a6)).setCell ⟨B, 7, none⟩ a7)).setCell ⟨B, 8, none⟩ a8).heap[B]? = some (.cells #[a0, a1, a2, a3, a4, a5, a6, a7, a8] t (0, 0)) := set_block s7
  exact s8
def putT (w : World) (B : Nat) (a3 a4 a5 : Value) : World := ((w.setCell ⟨B, 3, none⟩ a3).setCell ⟨B, 4, none⟩ a4).setCell ⟨B, 5, none⟩ a5
theorem putT_fr (w : World) (B : Nat) (a3 a4 a5 : Value) : Fr (fun k => k = B) w (putT w B a3 a4 a5) :=
  ((Fr.setCell (fun k => k = B) _ ⟨B, 3, none⟩ a3 rfl).trans (Fr.setCell (fun k => k = B) _ ⟨B, 4, none⟩ a4 rfl)).trans (Fr.setCell (fun k => k = B) _ ⟨B, 5, none⟩ a5 rfl)
theorem putT_block {w : World} {B : Nat} {a3 a4 a5 b0 b1 b2 b3 b4 b5 b6 b7 b8 : Value} {t : TypeId} (h : w.heap[B]? = some (.cells #[b0, b1, b2, b3, b4, b5, b6, b7, b8] t (0, 0))) :
    (putT w B a3 a4 a5).heap[B]? = some (.cells #[b0, b1, b2, a3, a4, a5, b6, b7, b8] t (0, 0)) :=
  set_block (i := 5) (u := a5) (set_block (i := 4) (u := a4) (set_block (i := 3) (u := a3) h))
theorem block9 {w : World} {B : Nat} {a0 a1 a2 a3 a4 a5 a6 a7 a8 : Value} {t : TypeId} (h : w.heap[B]? = some (.cells #[a0, a1, a2, a3, a4, a5, a6, a7, a8] t (0, 0))) :
    (w.cell? ⟨B, 0, none⟩ = some a0 ∧ w.cell? ⟨B, 1, none⟩ = some a1 ∧ w.cell? ⟨B, 2, none⟩ = some a2 ∧ w.cell? ⟨B, 3, none⟩ = some a3 ∧ w.cell? ⟨B, 4, none⟩ = some a4 ∧ w.cell? ⟨B, 5, none⟩ = some a5 ∧ w.cell? ⟨B, 6, none⟩ = some a6 ∧ w.cell? ⟨B, 7, none⟩ = some a7 ∧ w.cell? ⟨B, 8, none⟩ = some a8) ∧
    w.frozen? ⟨B, 0, none⟩ = false ∧ w.frozen? ⟨B, 1, none⟩ = false ∧ w.frozen? ⟨B, 2, none⟩ = false ∧ w.frozen? ⟨B, 3, none⟩ = false ∧ w.frozen? ⟨B, 4, none⟩ = false ∧ w.frozen? ⟨B, 5, none⟩ = false ∧ w.frozen? ⟨B, 6, none⟩ = false ∧ w.frozen? ⟨B, 7, none⟩ = false ∧ w.frozen? ⟨B, 8, none⟩ = false := by
  refine ⟨⟨?_, ?_, ?_, ?_, ?_, ?_, ?_, ?_, ?_⟩, ?_, ?_, ?_, ?_, ?_, ?_, ?_, ?_, ?_⟩
  all_goals first | (rw [cell_of_row _ _ _ _ _ (0, 0) h]; rfl) | simp [World.frozen?, h]
abbrev zero9 : Array Value := #[.int .i64 0, .string ⟨#[]⟩, .int .i64 0, .int .i64 0, .int .i64 0, .slice none 0 0, .slice none 0 0, .int .i64 0, .int .i64 0]
def TCopy (h : Nd) (ps : To) : Prop := ∀ (w : World) (R : Nat → Prop) (o1 : Option Addr) (l1 c1 : Nat) (o2 : Option Addr) (l2 c2 : Nat), SlcIn R w o1 l1 h.tp → TSlc R w o2 l2 ps → h.tp.size ≤ 1000000 → allT (fun h => h.tp.size ≤ 1000000) ps → ps.size ≤ 1000000 →
  Calls Tryd.prog 51 #[tmv h o1 l1 c1 o2 l2 c2] w fun e w' => ∃ p1 d1 p2 d2, e = .returned (tmv h p1 l1 d1 p2 l2 d2) ∧ SlcIn (fun b => w.heap.size ≤ b) w' p1 l1 h.tp ∧ TSlc (fun b => w.heap.size ≤ b) w' p2 l2 ps ∧ Quiet0 w w'
set_option maxRecDepth 100000 in
set_option maxHeartbeats 4000000 in
theorem copyT_any (h : Nd) (ps : To) : TCopy h ps := by
  refine To.ind' (T := TCopy) ?_ h ps
  intro h ps ih w R o1 l1 c1 o2 l2 c2 hs1 hs htz hats hsz
  have HS := Lib.hid hs
  have IH := Lib.hid ih
  have HL := Lib.hid hs.1
  have HA := Lib.hid hats
  have hmx := hs.2.1
  have hll := To.length_le ps
  rw [← hs.1] at hll
  unfold maxLen at hmx
  obtain ⟨W0, hW0⟩ : ∃ W0, W0 = (w.alloc (.cells (cells9 h o1 l1 c1 o2 l2 c2) 30)).alloc (.cells zero9 30) := ⟨_, rfl⟩
  have HQ0 : Hid (Quiet0 w W0) := by rw [hW0]; exact (Quiet0.alloc _ _).trans (Quiet0.alloc _ _)
  have HCT := Lib.hid (copy_any h.tk h.tn h.tp W0 o1 l1 c1 (hs1.slc.stay HQ0.out) htz)
  have hz0 : w.heap.size + 2 ≤ W0.heap.size := by rw [hW0]; simp
  have HB0 : Hid (W0.heap[w.heap.size]? = some (.cells (cells9 h o1 l1 c1 o2 l2 c2) 30 (0, 0))) := by
    show _ = _; rw [hW0, Below.heap_alloc _ _ _ (by simp)]; exact heap_alloc_new w _
  have HB1 : Hid (W0.heap[w.heap.size + 1]? = some (.cells zero9 30 (0, 0))) := by
    show _ = _; rw [hW0]
    have := heap_alloc_new (w.alloc (.cells (cells9 h o1 l1 c1 o2 l2 c2) 30)) (.cells zero9 30)
    simpa using this
  clear hs ih hats hs1
  unfold tyv at HCT
  unfold tmv
  go_enter Tryd.func51, Tryd.ntmps51
  go_wp2_with fail
  change Calls _ _ _ ((w.alloc (.cells (cells9 h o1 l1 c1 o2 l2 c2) 30)).alloc (.cells zero9 30)) _
  rw [← hW0]
  refine HCT.out.mono ?_; rintro e w1 ⟨q1, e1, rfl, hsl1, hq1⟩
  have HSL1 := Lib.hid hsl1
  have hb0 := (hq1.block _ (by omega) (fun h => h)).trans HB0.out
  have hb1 := (hq1.block _ (by omega) (fun h => h)).trans HB1.out
  have HQ1 := Lib.hid hq1
  have hz1 : W0.heap.size ≤ w1.heap.size := hq1.size
  clear hW0 hq1 hsl1 HB0 HB1 HCT
  have HB0 := Lib.hid hb0
  have HB1 := Lib.hid hb1
  obtain ⟨⟨x0, x1, x2, x3, x4, x5, x6, x7, x8⟩, y0, y1, y2, y3, y4, y5, y6, y7, y8⟩ := block9 hb0
  clear hb0 hb1
  generalize hB : w.heap.size = B at *
  have HBE := Lib.hid hB
  clear hB
  go_wp2_with fail
  obtain ⟨W1, hW1⟩ : ∃ W1, W1 = putT w1 B (.int .i64 h.tk) (.int .i64 h.tn) (.slice q1 l1 e1) := ⟨_, rfl⟩
  change Code.wp _ _ _ _ (putT w1 B (.int .i64 h.tk) (.int .i64 h.tn) (.slice q1 l1 e1))
  have hz2 : W1.heap.size = w1.heap.size := by rw [hW1]; simp [putT, World.setCell]
  have HQW : Hid (Quiet0 w W1) := by
    rw [hW1]
    exact (HQ0.out.trans HQ1.out).trans' (putT_fr _ _ _ _ _) (fun i hi h => by have := HBE.out; omega)
  have HSLW : Hid (SlcIn (fun b => W0.heap.size ≤ b) W1 q1 l1 h.tp) := by
    rw [hW1]
    exact HSL1.out.fr (putT_fr _ _ _ _ _) (fun k _ hk => ⟨hk, fun h => by have hk' : W0.heap.size ≤ k := hk; omega⟩)
  replace HB0 : Hid (W1.heap[B]? = some (.cells (cells9 h q1 l1 e1 o2 l2 c2) 30 (0, 0))) := by
    rw [hW1]; exact putT_block HB0.out
  replace HB1 : Hid (W1.heap[B + 1]? = some (.cells zero9 30 (0, 0))) := by
    rw [hW1]
    exact ((putT_fr w1 B _ _ _).block _ (by omega) (fun h => by omega)).trans HB1.out
  rw [← hW1]
  clear hW1 x0 x1 x2 x3 x4 x5 x6 x7 x8 y0 y1 y2 y3 y4 y5 y6 y7 y8 HSL1 HQ1 HQ0
  go_loopw [3, 13] (fun v t wr => ∃ (i : Nat) (f : To) (xs : List Value) (vo : Option Addr) (vc : Nat), t = .int .i64 i ∧ i ≤ l2 ∧ v = .slice vo i vc ∧ f.length = i ∧ f.app (ps.drop i) = ps ∧ TmRow wr W1.heap.size (.slice vo i vc) f xs ∧ Quiet0 W1 wr) (fun _ t _ => l2 - (intOf t).toNat)
  case atStart => exact ⟨0, .nil, [], none, 0, rfl, Nat.zero_le _, rfl, rfl, by rw [To.drop_zero]; rfl, TmRow.nil _ _, Quiet0.refl _⟩
  case round =>
    obtain ⟨i, f, xs, vo, vc, rfl, hi, rfl, hfl, hap, hrow, hq⟩ := hrel
    have HF := Lib.hid hfl
    have HAP := Lib.hid hap
    have HR := Lib.hid hrow
    have HQ := Lib.hid hq
    clear hfl hap hrow hq
    by_cases hlt : i < l2
    · have hlt' : (i : Int) < l2 := by omega
      obtain ⟨b, off, hd, qs, u1, v1, t1, u2, v2, t2, rfl, hdr, hg, hRb, ⟨f0, f1, f2, f3, f4, f5, f6, f7, f8⟩, hsl, hts⟩ := (HS.out.stay (HQW.out.trans HQ.out)).nth hlt
      have hsq := To.size_get ps i hd qs hg
      have hna := allT_get ps i hd qs HA.out hg
      obtain ⟨w2, hw2⟩ : ∃ w2, w2 = wr.alloc (.cells (cells9 hd u1 v1 t1 u2 v2 t2) 30) := ⟨_, rfl⟩
      have hqw2 : Quiet0 wr w2 := by rw [hw2]; exact Quiet0.alloc _ _
      have HC := Lib.hid (IH.out i hd qs hg w2 R u1 v1 t1 u2 v2 t2 (hsl.stay hqw2) (hts.stay hqw2) hna.1 hna.2 (by omega))
      have HQA := Lib.hid hqw2
      have HD : Hid ((f.app (.cons hd qs .nil)).app (ps.drop (i + 1)) = ps) := by
        show _ = _
        conv => rhs; rw [← HAP.out, hdr]
        rw [To.app_assoc]; rfl
      unfold tmv at HC
      clear hdr hg hsl hts hsq hRb hna hqw2
      go_wp2_with fail
      change Calls _ _ _ (wr.alloc (.cells (cells9 hd u1 v1 t1 u2 v2 t2) 30)) _
      rw [← hw2]
      refine HC.out.mono ?_; rintro e w3 ⟨n1, m1, n2, m2, rfl, hk1, hk2, hq3⟩
      have HK1 := Lib.hid hk1
      have HK2 := Lib.hid hk2
      have HQ3 := Lib.hid (HQA.out.trans hq3)
      have HQ4 := Lib.hid hq3
      have HR1 := Lib.hid (HR.out.stay HQ3.out)
      clear hk1 hk2 hq3 hw2
      go_wp2_with (at_builtin; go_must (refine wpList_append_one w3 rfl (.tmp 17) (.tmp 20) 26 rfl 30 _ 9 112 elemTm (.slice vo i vc) i xs rfl (HF.out ▸ HR1.out.own) (cells9 hd n1 v1 m1 n2 v2 m2) rfl rfl ?c1 ?c2 ?c3 ?_))
      case c1 => simp [Value.oneCell']
      case c2 => unfold maxLen; omega
      case c3 => omega
      intro g2 c' w4 ho hf hg2
      have hlow : W1.heap.size ≤ w3.heap.size := Nat.le_trans HQ.out.size HQ3.out.size
      have hown : ∀ kk, (Value.slice vo i vc).ownBlock = some kk → kk < wr.heap.size := fun kk h => (HR.out.own.lt kk h).2
      have hw2s : wr.heap.size ≤ w2.heap.size := HQA.out.size
      have hk : ∀ kk, kk < w3.heap.size → w2.heap.size ≤ kk → ((W1.heap.size ≤ kk ∧ (Value.slice vo i vc).ownBlock ≠ some kk) ∧ ¬ False) := by
        intro kk _ hkk
        refine ⟨⟨by have := HQ.out.size; omega, fun h => ?_⟩, fun h => h⟩
        have := hown kk h; omega
      have HR2 : Hid (TmRow w4 W1.heap.size (.slice (some ⟨g2, 0, none⟩) (i + 1) c') (f.app (.cons hd qs .nil)) (xs ++ (cells9 hd n1 v1 m1 n2 v2 m2).toList)) := by
        show TmRow _ _ _ _ _
        have hf' := HF.out
        subst hf'
        exact TmRow.snoc HR1.out (HK1.out.fr (Fr.refl (fun _ => False) _) hk) (HK2.out.fr (Fr.refl (fun _ => False) _) hk) ho hf hg2 hlow
      have HQ2 : Hid (Quiet0 W1 w4) := by
        show Quiet0 _ _
        exact Fr.trans' (HQ.out.trans HQ3.out) hf (fun kk hkk h => absurd (HR.out.low kk h) (by omega))
      have HL2 : Hid ((f.app (.cons hd qs .nil)).length = i + 1) := by
        show _ = _
        rw [To.app_length, HF.out]; rfl
      clear ho hf hg2 hown hk
      go_wp2_with fail
      go_roundw
      case rel => exact ⟨i + 1, _, _, some ⟨g2, 0, none⟩, c', by go_num, by omega, rfl, HL2.out, HD.out, HR2.out, HQ2.out⟩
      case measure => simp [intOf]; omega
    · have hlt' : ¬ (i : Int) < l2 := by omega
      have hb1 := (HQ.out.block _ (by omega) (fun h => h)).trans HB1.out
      have hb0 := (HQ.out.block _ (by omega) (fun h => h)).trans HB0.out
      have hb0' := set_block (i := 6) (u := .slice vo i vc) hb0
      have hil : i = l2 := by omega
      subst hil
      obtain ⟨⟨x0, x1, x2, x3, x4, x5, x6, x7, x8⟩, y0, y1, y2, y3, y4, y5, y6, y7, y8⟩ := block9 hb0
      obtain ⟨⟨z0, z1, z2, z3, z4, z5, z6, z7, z8⟩, t0, t1, t2, t3, t4, t5, t6, t7, t8⟩ := block9 hb1
      have HB0 := Lib.hid hb0
      have HB1 := Lib.hid hb1
      clear hb0 hb1
      go_wp2_with fail
      have hb1' : (wr.setCell ⟨B, 6, none⟩ (.slice vo i vc)).heap[B + 1]? = some (.cells zero9 30 (0, 0)) := by
        rw [Below.heap_setCell _ _ _ _ (by show B + 1 ≠ B; omega)]; exact HB1.out
      have hff : Fr (fun k => k = B ∨ k = B + 1) wr (put9 (wr.setCell ⟨B, 6, none⟩ (.slice vo i vc)) (B + 1) (.int .i64 h.k) (.string h.nm) (.int .i64 h.n) (.int .i64 h.tk) (.int .i64 h.tn) (.slice q1 l1 e1) (.slice vo i vc) (.int .i64 h.fr) (.int .i64 h.en)) :=
        (Fr.setCell _ _ _ _ (.inl rfl)).trans ((put9_fr _ _ _ _ _ _ _ _ _ _ _).mono (fun k _ hk => .inr hk))
      have hbf := put9_block (a0 := .int .i64 h.k) (a1 := .string h.nm) (a2 := .int .i64 h.n) (a3 := .int .i64 h.tk) (a4 := .int .i64 h.tn) (a5 := .slice q1 l1 e1) (a6 := .slice vo i vc) (a7 := .int .i64 h.fr) (a8 := .int .i64 h.en) hb1'
      change bodyPost _ _ _ _ _ (put9 (wr.setCell ⟨B, 6, none⟩ (.slice vo i vc)) (B + 1) (.int .i64 h.k) (.string h.nm) (.int .i64 h.n) (.int .i64 h.tk) (.int .i64 h.tn) (.slice q1 l1 e1) (.slice vo i vc) (.int .i64 h.fr) (.int .i64 h.en))
      clear x0 x1 x2 x3 x4 x5 x6 x7 x8 y0 y1 y2 y3 y4 y5 y6 y7 y8 z0 z1 z2 z3 z4 z5 z6 z7 z8 t0 t1 t2 t3 t4 t5 t6 t7 t8 hb0' hb1'
      generalize (put9 (wr.setCell ⟨B, 6, none⟩ (.slice vo i vc)) (B + 1) (.int .i64 h.k) (.string h.nm) (.int .i64 h.n) (.int .i64 h.tk) (.int .i64 h.tn) (.slice q1 l1 e1) (.slice vo i vc) (.int .i64 h.fr) (.int .i64 h.en)) = wf at *
      obtain ⟨⟨x0, x1, x2, x3, x4, x5, x6, x7, x8⟩, _⟩ := block9 hbf
      have HFIN : Hid (SlcIn (fun b => w.heap.size ≤ b) wf q1 l1 h.tp ∧ TSlc (fun b => w.heap.size ≤ b) wf vo i ps ∧ Quiet0 w wf) := by
        have hz := HBE.out
        have hap := HAP.out
        rw [To.drop_end ps i (by have := HL.out; omega), To.app_nil] at hap
        have hqs := HQ.out.size
        refine ⟨(HSLW.out.stay HQ.out).fr hff (fun k _ hk => ?_), ?_, ?_⟩
        · have hk' : W0.heap.size ≤ k := hk
          exact ⟨by omega, by omega⟩
        · rw [← hap]
          refine (HR.out.slc HF.out.symm (by unfold maxLen; omega)).fr hff (fun k _ hk => ?_)
          have hk' : W1.heap.size ≤ k := hk
          exact ⟨by omega, by omega⟩
        · exact (HQW.out.trans HQ.out).trans' hff (fun i hi h => by omega)
      refine bodyPost_ret (by simp [results, Tryd.results51, go_sem, x0, x1, x2, x3, x4, x5, x6, x7, x8]; rfl) rfl ?_
      exact ⟨q1, e1, vo, ⟨vc, rfl⟩, HFIN.out⟩
end Go.Proofs.YtnfodiedalhlhaaDoor
end
