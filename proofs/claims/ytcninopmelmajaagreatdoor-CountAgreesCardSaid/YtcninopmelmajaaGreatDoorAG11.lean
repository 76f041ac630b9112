/-
  Texts laid together (EmNext, EqMean, TyShift, EqShift, EqCopy): laws and walks, with their conditions.
-/
import Derived.WalkMore
import Derived.Test.YtcninopmelmajaaGreatDoorAG10
set_option maxHeartbeats 8000000
set_option maxRecDepth 1000000
namespace Go.Proofs.YtcninopmelmajaaGreatDoor
open Go.Lib (hid)
theorem jq {a b : World} {o : Obj} (h : Quiet0 a b) : Quiet0 a (b.alloc o) := h.trans (Quiet0.alloc _ _)
theorem jr {a b : World} (h : Quiet0 a b) : Quiet0 a b.drew := h.trans (Quiet0.drew _)
namespace Em
theorem jm {pb : Nat} {a b : World} {o : Obj} (hp : pb < a.heap.size) (h : Later pb a b) : Later pb a (b.alloc o) := h.quiet (Quiet0.alloc _ _) hp
theorem jo {pb : Nat} {a b : World} (hp : pb < a.heap.size) (h : Later pb a b) : Later pb a b.drew := h.quiet (Quiet0.drew _) hp
theorem ja {X : Nat -> Prop} {most : Int} {pb : Nat} {W : World} {o : Obj} {k : Mk} (h : MkE X most pb W k) : MkE X most pb (W.alloc o) k := h.stay (Quiet0.alloc _ _)
theorem jb {X : Nat -> Prop} {most : Int} {pb : Nat} {W : World} {k : Mk} (h : MkE X most pb W k) : MkE X most pb W.drew k := h.stay (Quiet0.drew _)
end Em
section
namespace Em
def NM {α : Type} (f : Pm α) : Prop := ∀ m, m.next <= (f m).2.next /\ m.eqs.length <= (f m).2.eqs.length
theorem NM.pure {α : Type} (a : α) : NM (pu a) := fun _ => ⟨Nat.le_refl _, Nat.le_refl _⟩
theorem NM.bind {α β : Type} {f : Pm α} {g : α -> Pm β} (h : NM f) (k : ∀ a, NM (g a)) : NM (bd f g) := fun m => ⟨Nat.le_trans (h m).1 (k _ _).1, Nat.le_trans (h m).2 (k _ _).2⟩
theorem NM.getP : NM getP := fun _ => ⟨Nat.le_refl _, Nat.le_refl _⟩
theorem NM.take : NM takeP := fun _ => ⟨Nat.le_succ _, Nat.le_refl _⟩
theorem NM.bump (d : Nat) : NM (bumpP d) := fun m => ⟨by show m.next <= m.next + d; omega, Nat.le_refl _⟩
theorem eqP_next (most : Int) (l r : Ty) (fr en : Int) (m : Mk) : (eqP most l r fr en m).2.next = m.next := by unfold eqP; dsimp only; split <;> rfl
theorem eqP_len (most : Int) (l r : Ty) (fr en : Int) (m : Mk) : m.eqs.length <= (eqP most l r fr en m).2.eqs.length := by
 unfold eqP; dsimp only; split
 ·exact Nat.le_refl _
 ·simp
theorem NM.eqn (most : Int) (l r : Ty) (fr en : Int) : NM (eqP most l r fr en) := fun m => ⟨by rw [eqP_next]; exact Nat.le_refl _, eqP_len _ _ _ _ _ _⟩
theorem NM.many {α : Type} (x : α) {f : Pm α} (h : NM f) : NM (ifMany x f) := fun m => by
 unfold ifMany
 split
 ·exact ⟨Nat.le_refl _, Nat.le_refl _⟩
 ·exact h m
theorem NM.ite {α : Type} {c : Prop} [Decidable c] {f g : Pm α} (h1 : NM f) (h2 : NM g) : NM (if c then f else g) := by
 by_cases hc : c
 ·rw [if_pos hc]; exact h1
 ·rw [if_neg hc]; exact h2
theorem kept_next (most : Int) (sh : Ty -> Ty) : ∀ (l : List Eqn) (m : Mk), (keptP most sh l m).2.next = m.next
 | [], _ => rfl
 | e :: r, m => by
  unfold keptP ifMany
  split
  ·rfl
  ·show (keptP most sh r (eqP most (sh e.1) (sh e.2.1) e.2.2.1 e.2.2.2 m).2).2.next = m.next
   rw [kept_next most sh r, eqP_next]
def NE (e : Env) : Prop := ∀ x ∈ e, NM x.2
theorem NE.nil : NE [] := fun x hx => by cases hx
theorem NE.cons {e : Env} (h : NE e) {s : ByteArray} {f : Pm Ty} (hf : NM f) : NE ((s, f) :: e) := fun x hx => by
 rcases List.mem_cons.1 hx with rfl | hx
 ·exact hf
 ·exact h x hx
theorem lookE_nm : ∀ (e : Env) (s : ByteArray), NE e -> NM (lookE e s)
 | [], s, _ => NM.pure _
 | x :: r, s, h => by
  unfold lookE
  exact NM.ite (h x (by simp)) (lookE_nm r s (fun y hy => h y (by simp [hy])))
def VN (v : Env -> Pm Ty) : Prop := ∀ e, NE e -> NM (v e)
theorem vat_nm {vs : List (Env -> Pm Ty)} (hv : ∀ v ∈ vs, VN v) (i : Nat) {e : Env} (he : NE e) : NM (vat vs i e) := by
 unfold vat
 rw [List.getD_eq_getElem?_getD]
 cases hi : vs[i]? with
 | none => exact NM.pure _
 | some v => exact hv v (List.mem_of_getElem? hi) e he
theorem mapE_nm {e : Env} (he : NE e) : ∀ {vs : List (Env -> Pm Ty)}, (∀ v ∈ vs, VN v) -> NM (mapE e vs)
 | [], _ => NM.pure _
 | v :: r, h => NM.bind (h v (by simp) e he) fun t => NM.bind (mapE_nm he (fun u hu => h u (by simp [hu]))) fun l => NM.pure _
theorem keptP_nm (most : Int) (sh : Ty -> Ty) : ∀ l : List Eqn, NM (keptP most sh l)
 | [] => NM.pure _
 | _ :: r => NM.many _ (NM.bind (NM.eqn _ _ _ _ _) fun _ => keptP_nm most sh r)
theorem copied_nm (most : Int) (kept : List Eqn) (v : Ty) (fr tt : Nat) : NM (copied most kept v fr tt) := NM.bind NM.getP fun _ => NM.bind (NM.bump _) fun _ => NM.bind (keptP_nm _ _ _) fun _ => NM.pure _
theorem letP_nm (most : Int) (h : Nd) {f : Pm Ty} {g : Pm Ty -> Pm Ty} (hf : NM f) (hg : ∀ c, NM c -> NM (g c)) : NM (letP most h f g) :=
 NM.bind NM.getP fun _ => NM.bind hf fun _ => NM.bind NM.getP fun _ => hg _ (copied_nm _ _ _ _ _)
theorem oneM_nm (most : Int) (h : Nd) (ps : To) {vs : List (Env -> Pm Ty)} (hv : ∀ v ∈ vs, VN v) : VN (oneM most h ps vs) := by
 intro e he
 unfold oneM
 have fin : ∀ (l r own : Ty) (fr en : Int), NM (bd (eqP most l r fr en) fun _ => pu own) := fun l r own fr en => NM.bind (NM.eqn _ _ _ _ _) fun _ => NM.pure _
 refine NM.bind NM.take fun own => NM.many _ (NM.ite (fin _ _ _ _ _) (NM.ite (fin _ _ _ _ _) (NM.ite (NM.bind (lookE_nm e _ he) fun _ => fin _ _ _ _ _) (NM.ite ?_ (NM.ite ?_ (NM.ite ?_ (NM.bind (mapE_nm he hv) fun p => ?_)))))))
 ·exact NM.bind NM.take fun b => NM.bind (vat_nm hv 0 (he.cons (NM.pure b))) fun _ => fin _ _ _ _ _
 ·exact NM.bind (letP_nm _ _ (vat_nm hv 0 he) fun c hc => vat_nm hv 1 (he.cons hc)) fun _ => fin _ _ _ _ _
 ·exact NM.bind (letP_nm _ _ (NM.bind NM.take fun v => NM.bind (vat_nm hv 0 (he.cons (NM.pure v))) fun _ => NM.bind (NM.eqn _ _ _ _ _) fun _ => NM.pure _) fun c hc => vat_nm hv 1 (he.cons hc)) fun _ => fin _ _ _ _ _
 ·exact NM.ite (fin _ _ _ _ _) (NM.ite (NM.bind (NM.eqn _ _ _ _ _) fun _ => NM.bind (NM.eqn _ _ _ _ _) fun _ => fin _ _ _ _ _) (NM.ite (fin _ _ _ _ _) (NM.ite (NM.bind (NM.eqn _ _ _ _ _) fun _ => fin _ _ _ _ _) (NM.pure _))))
theorem valsM_nm (most : Int) : ∀ f : To, ∀ v ∈ valsM most f, VN v
 | .nil, v, hv => by simp [valsM] at hv
 | .cons h ps r, v, hv => by
  rcases List.mem_cons.1 hv with rfl | hv
  ·exact oneM_nm most h ps (valsM_nm most ps)
  ·exact valsM_nm most r v hv
theorem termM_nm (most : Int) (h : Nd) (ps : To) : VN (termM most h ps) := oneM_nm most h ps (valsM_nm most ps)
def Mn (M s : Nat) {α : Type} (f : Pm α) : Prop := ∀ m, m.eqs.length <= M -> m.many = true -> (f m).2.many = true /\ m.eqs.length <= (f m).2.eqs.length /\ (f m).2.eqs.length <= M /\ (f m).2.next <= m.next + s
def Be (M s : Nat) (d : Int) {α : Type} (f : Pm α) : Prop := ∀ m, m.eqs.length <= M -> m.many = false -> m.eqs.length <= (f m).2.eqs.length /\ (f m).2.eqs.length <= M /\
 (((f m).2.many = false /\ ((f m).2.next : Int) + 2 * m.eqs.length <= m.next + 2 * (f m).2.eqs.length + d) ∨ ((f m).2.many = true /\ (f m).2.next + 2 * m.eqs.length <= m.next + 2 * (f m).2.eqs.length + s + 2 * M))
section
variable {M : Nat}
theorem Mn.mono {s t : Nat} {α : Type} {f : Pm α} (h : Mn M s f) (hs : s <= t) : Mn M t f := fun m h1 h2 => by
 obtain ⟨a, b, c, d⟩ := h m h1 h2
 exact ⟨a, b, c, by omega⟩
theorem Be.mono {s t : Nat} {d e : Int} {α : Type} {f : Pm α} (h : Be M s d f) (hs : s <= t) (hd : d <= e) : Be M t e f := fun m h1 h2 => by
 obtain ⟨a, b, c⟩ := h m h1 h2
 exact ⟨a, b, c.imp (fun ⟨x, y⟩ => ⟨x, by omega⟩) (fun ⟨x, y⟩ => ⟨x, by omega⟩)⟩
theorem Mn.bind {s t : Nat} {α β : Type} {f : Pm α} {g : α -> Pm β} (h : Mn M s f) (k : ∀ a, Mn M t (g a)) : Mn M (s + t) (bd f g) := fun m h1 h2 => by
 obtain ⟨a, b, c, d⟩ := h m h1 h2
 obtain ⟨a', b', c', d'⟩ := k (f m).1 (f m).2 c a
 exact ⟨a', Nat.le_trans b b', c', by show (g _ _).2.next <= _; omega⟩
theorem Be.bind {s t : Nat} {d e : Int} {α β : Type} {f : Pm α} {g : α -> Pm β} (h : Be M s d f) (hd : d <= s) (k : ∀ a, Be M t e (g a)) (l : ∀ a, Mn M t (g a)) : Be M (s + t) (d + e) (bd f g) := fun m h1 h2 => by
 obtain ⟨a, b, c⟩ := h m h1 h2
 rcases c with ⟨c1, c2⟩ | ⟨c1, c2⟩
 ·obtain ⟨a', b', c'⟩ := k (f m).1 (f m).2 b c1
  refine ⟨Nat.le_trans a a', b', ?_⟩
  rcases c' with ⟨c3, c4⟩ | ⟨c3, c4⟩
  ·exact .inl ⟨c3, by show ((g _ _).2.next : Int) + _ <= m.next + 2 * ((g _ _).2.eqs.length : Int) + _; omega⟩
  ·exact .inr ⟨c3, by show (g _ _).2.next + _ <= m.next + 2 * (g _ _).2.eqs.length + _ + _; omega⟩
 ·obtain ⟨a', b', c', d'⟩ := l (f m).1 (f m).2 b c1
  exact ⟨Nat.le_trans a b', c', .inr ⟨a', by show (g _ _).2.next + _ <= m.next + 2 * (g _ _).2.eqs.length + _ + _; omega⟩⟩
theorem Mn.pure {α : Type} (a : α) : Mn M 0 (pu a) := fun _ h1 h2 => ⟨h2, Nat.le_refl _, h1, Nat.le_refl _⟩
theorem Be.pure {α : Type} (a : α) : Be M 0 0 (pu a) := fun m h1 h2 => ⟨Nat.le_refl _, h1, .inl ⟨h2, by show (m.next : Int) + 2 * m.eqs.length <= m.next + 2 * m.eqs.length + 0; omega⟩⟩
theorem Mn.take : Mn M 1 takeP := fun _ h1 h2 => ⟨h2, Nat.le_refl _, h1, Nat.le_refl _⟩
theorem Be.take : Be M 1 1 takeP := fun m h1 h2 => ⟨Nat.le_refl _, h1, .inl ⟨h2, by show ((m.next + 1 : Nat) : Int) + 2 * m.eqs.length <= m.next + 2 * m.eqs.length + 1; omega⟩⟩
variable {most : Int} (hm : most <= M)
include hm
theorem Mn.eqn (l r : Ty) (fr en : Int) : Mn M 0 (eqP most l r fr en) := fun m h1 h2 => by
 unfold eqP; dsimp only
 split
 ·exact ⟨rfl, Nat.le_refl _, h1, Nat.le_refl _⟩
 ·exact ⟨h2, by simp, by simp; omega, Nat.le_refl _⟩
theorem Be.eqn (l r : Ty) (fr en : Int) : Be M 0 (-2) (eqP most l r fr en) := fun m h1 h2 => by
 unfold eqP; dsimp only
 split
 ·exact ⟨Nat.le_refl _, h1, .inr ⟨rfl, by show m.next + 2 * m.eqs.length <= m.next + 2 * m.eqs.length + 0 + 2 * M; omega⟩⟩
 ·exact ⟨by simp, by simp; omega, .inl ⟨h2, by simp; omega⟩⟩
theorem fin_mn (own l r : Ty) (fr en : Int) : Mn M 0 (bd (eqP most l r fr en) fun _ => pu own) := Mn.bind (Mn.eqn hm _ _ _ _) fun _ => Mn.pure _
theorem fin_be (own l r : Ty) (fr en : Int) : Be M 0 (-2) (bd (eqP most l r fr en) fun _ => pu own) := (Be.bind (Be.eqn hm _ _ _ _) (by decide) (fun _ => Be.pure own) (fun _ => Mn.pure own)).mono (Nat.le_refl _) (by decide)
theorem keptP_be (sh : Ty -> Ty) : ∀ (l : List Eqn) (m : Mk), m.eqs.length <= M -> m.eqs.length <= (keptP most sh l m).2.eqs.length /\ (keptP most sh l m).2.eqs.length <= M /\ (keptP most sh l m).2.next = m.next /\ ((keptP most sh l m).2.many = false -> (keptP most sh l m).2.eqs.length = m.eqs.length + l.length)
 | [], m, h => ⟨Nat.le_refl _, h, rfl, fun _ => rfl⟩
 | e :: r, m, h => by
  unfold keptP ifMany
  by_cases hmm : m.many = true
  ·rw [if_pos hmm]
   exact ⟨Nat.le_refl _, h, rfl, fun c => absurd hmm (by show ¬ m.many = true; rw [show m.many = false from c]; decide)⟩
  ·rw [if_neg hmm]
   show m.eqs.length <= (keptP most sh r (eqP most (sh e.1) (sh e.2.1) e.2.2.1 e.2.2.2 m).2).2.eqs.length /\ (keptP most sh r (eqP most (sh e.1) (sh e.2.1) e.2.2.1 e.2.2.2 m).2).2.eqs.length <= M /\ (keptP most sh r (eqP most (sh e.1) (sh e.2.1) e.2.2.1 e.2.2.2 m).2).2.next = m.next /\ ((keptP most sh r (eqP most (sh e.1) (sh e.2.1) e.2.2.1 e.2.2.2 m).2).2.many = false -> (keptP most sh r (eqP most (sh e.1) (sh e.2.1) e.2.2.1 e.2.2.2 m).2).2.eqs.length = m.eqs.length + (r.length + 1))
   have hm0 : m.many = false := by simpa using hmm
   obtain ⟨a, b, c⟩ := Be.eqn hm (sh e.1) (sh e.2.1) e.2.2.1 e.2.2.2 m h hm0
   have hn := eqP_next most (sh e.1) (sh e.2.1) e.2.2.1 e.2.2.2 m
   obtain ⟨a', b', c', d'⟩ := keptP_be sh r (eqP most (sh e.1) (sh e.2.1) e.2.2.1 e.2.2.2 m).2 b
   refine ⟨Nat.le_trans a a', b', c'.trans hn, fun hf => ?_⟩
   rw [d' hf]
   have hone : (eqP most (sh e.1) (sh e.2.1) e.2.2.1 e.2.2.2 m).2.many = true ∨ (eqP most (sh e.1) (sh e.2.1) e.2.2.1 e.2.2.2 m).2.eqs.length = m.eqs.length + 1 := by
    unfold eqP; dsimp only
    split
    ·exact .inl rfl
    ·exact .inr (by simp)
   rcases hone with hx | hx
   ·have := keptP_stuck sh r _ hx
    rw [this] at hf; cases hf
   ·omega
where keptP_stuck (sh : Ty -> Ty) : ∀ (l : List Eqn) (m : Mk), m.many = true -> (keptP most sh l m).2.many = true
 | [], m, h => h
 | e :: r, m, h => by unfold keptP ifMany; rw [if_pos h]; exact h
theorem copied_be {kept : List Eqn} {v : Ty} {fr tt : Nat} (h1 : tt - fr <= 2 * kept.length) (h2 : kept.length <= M) : Be M 0 0 (copied most kept v fr tt) := fun m hl hn => by
 obtain ⟨a, b, c, d⟩ := keptP_be hm (shT fr tt (m.next - fr)) kept { m with next := m.next + (tt - fr) } hl
 have e : (copied most kept v fr tt m).2 = (keptP most (shT fr tt (m.next - fr)) kept { m with next := m.next + (tt - fr) }).2 := rfl
 rw [e]
 generalize (keptP most (shT fr tt (m.next - fr)) kept { m with next := m.next + (tt - fr) }).2 = q at *
 dsimp only at a b c d
 refine ⟨a, b, ?_⟩
 cases hq : q.many
 ·have := d hq
  exact .inl ⟨rfl, by rw [c, this]; push_cast; omega⟩
 ·exact .inr ⟨rfl, by rw [c]; omega⟩
theorem letP_be (h : Nd) {s t : Nat} {d e : Int} {f : Pm Ty} {F : Pm Ty -> Pm Ty} (hf : Be M s d f) (hd : d <= 0) (hF : ∀ c, Be M 0 0 c -> Be M t e (F c)) (hG : ∀ c, Mn M t (F c)) : Be M (s + t) (d + e) (letP most h f F) := fun m h1 h2 => by
 obtain ⟨a, b, c⟩ := hf m h1 h2
 have el : (letP most h f F m).2 = (F (copied most ((f m).2.eqs.drop m.eqs.length) (f m).1 m.next (f m).2.next) (f m).2).2 := rfl
 rw [el]
 rcases c with ⟨c1, c2⟩ | ⟨c1, c2⟩
 ·have hc := copied_be hm (kept := (f m).2.eqs.drop m.eqs.length) (v := (f m).1) (fr := m.next) (tt := (f m).2.next) (by rw [List.length_drop]; omega) (by rw [List.length_drop]; omega)
  obtain ⟨a', b', c'⟩ := hF _ hc (f m).2 b c1
  generalize (F (copied most ((f m).2.eqs.drop m.eqs.length) (f m).1 m.next (f m).2.next) (f m).2).2 = q at *
  refine ⟨Nat.le_trans a a', b', ?_⟩
  rcases c' with ⟨c3, c4⟩ | ⟨c3, c4⟩
  ·exact .inl ⟨c3, by omega⟩
  ·exact .inr ⟨c3, by omega⟩
 ·obtain ⟨a', b', c', d'⟩ := hG (copied most ((f m).2.eqs.drop m.eqs.length) (f m).1 m.next (f m).2.next) (f m).2 b c1
  exact ⟨Nat.le_trans a b', c', .inr ⟨a', by omega⟩⟩
end
theorem Be.many {M s : Nat} {d : Int} {α : Type} (x : α) {f : Pm α} (h : Be M s d f) : Be M s d (ifMany x f) := fun m h1 h2 => by
 unfold ifMany; rw [if_neg (by rw [h2]; decide)]; exact h m h1 h2
theorem Mn.many {M s : Nat} {α : Type} (x : α) (f : Pm α) : Mn M s (ifMany x f) := fun m h1 h2 => by
 unfold ifMany; rw [if_pos h2]; exact ⟨h2, Nat.le_refl _, h1, Nat.le_add_right _ _⟩
theorem Be.ite {M s : Nat} {d : Int} {α : Type} {c : Prop} [Decidable c] {f g : Pm α} (h1 : c -> Be M s d f) (h2 : ¬ c -> Be M s d g) : Be M s d (if c then f else g) := by
 by_cases hc : c
 ·rw [if_pos hc]; exact h1 hc
 ·rw [if_neg hc]; exact h2 hc
theorem Mn.ite {M s : Nat} {α : Type} {c : Prop} [Decidable c] {f g : Pm α} (h1 : Mn M s f) (h2 : Mn M s g) : Mn M s (if c then f else g) := by
 by_cases hc : c
 ·rw [if_pos hc]; exact h1
 ·rw [if_neg hc]; exact h2
def BE (M : Nat) (e : Env) : Prop := ∀ x ∈ e, Be M 0 0 x.2
theorem BE.cons {M : Nat} {e : Env} (h : BE M e) {s : ByteArray} {f : Pm Ty} (hf : Be M 0 0 f) : BE M ((s, f) :: e) := fun x hx => by
 rcases List.mem_cons.1 hx with rfl | hx
 ·exact hf
 ·exact h x hx
theorem lookE_be {M : Nat} : ∀ (e : Env) (s : ByteArray), BE M e -> Be M 0 0 (lookE e s)
 | [], s, _ => Be.pure _
 | x :: r, s, h => by
  unfold lookE
  exact Be.ite (fun _ => h x (by simp)) (fun _ => lookE_be r s (fun y hy => h y (by simp [hy])))
structure VBe (M s : Nat) (v : Env -> Pm Ty) : Prop where
 be : ∀ e, BE M e -> Be M s 0 (v e)
 mn : ∀ e, Mn M s (v e)
inductive VsBe (M : Nat) : List (Env -> Pm Ty) -> List Nat -> Prop
 | nil : VsBe M [] []
 | cons {s : Nat} {v : Env -> Pm Ty} {l : List (Env -> Pm Ty)} {k : List Nat} : VBe M s v -> VsBe M l k -> VsBe M (v :: l) (s :: k)
theorem VsBe.at {M : Nat} {l : List (Env -> Pm Ty)} {k : List Nat} (h : VsBe M l k) : ∀ (i : Nat), VBe M (k.getD i 0) (vat l i) := by
 induction h with
 | nil => intro i; exact ⟨fun e _ => Be.pure _, fun e => Mn.pure _⟩
 | cons h1 _ ih =>
  intro i
  cases i with
  | zero => exact h1
  | succ i => exact ih i
theorem VsBe.map {M : Nat} {e : Env} {l : List (Env -> Pm Ty)} {k : List Nat} (h : VsBe M l k) : Mn M k.sum (mapE e l) /\ (BE M e -> Be M k.sum 0 (mapE e l)) := by
 induction h with
 | nil => exact ⟨Mn.pure _, fun _ => Be.pure _⟩
 | @cons s v l k h1 _ ih =>
  refine ⟨by rw [List.sum_cons]; exact Mn.bind (h1.mn e) fun t => (Mn.bind ih.1 fun l => Mn.pure _).mono (Nat.le_refl _), fun he => ?_⟩
  rw [List.sum_cons]
  exact (Be.bind (h1.be e he) (by omega) (fun t => Be.bind (ih.2 he) (by omega) (fun l => Be.pure _) (fun l => Mn.pure _)) (fun t => Mn.bind ih.1 fun l => Mn.pure _)).mono (by simp) (by decide)
theorem sum0 : ∀ k : List Nat, k.getD 0 0 <= k.sum
 | [] => Nat.le_refl _
 | a :: r => by simp
theorem sum01 : ∀ k : List Nat, k.getD 0 0 + k.getD 1 0 <= k.sum
 | [] => Nat.le_refl _
 | [a] => by simp
 | a :: b :: r => by simp
theorem oneM_be {M : Nat} {most : Int} (hm : most <= M) (h : Nd) (ps : To) (hk : 1 <= h.k /\ h.k <= 10) {vs : List (Env -> Pm Ty)} {k : List Nat} (hv : VsBe M vs k) : VBe M (2 + k.sum) (oneM most h ps vs) := by
 refine ⟨fun e he => ?_, fun e => (Mn.bind (t := 1 + k.sum) Mn.take fun own => Mn.many own _).mono (by omega)⟩
 have q0 := sum0 k
 have q01 := sum01 k
 have fin := fin_be hm
 have fim := fin_mn hm
 unfold oneM
 refine (Be.bind (t := 1 + k.sum) (e := -1) Be.take (by decide) (fun own => Be.many own ?_) (fun own => Mn.many own _)).mono (by omega) (by decide)
 refine Be.ite (fun _ => (fin _ _ _ _ _).mono (by omega) (by decide)) fun _ => Be.ite (fun _ => (fin _ _ _ _ _).mono (by omega) (by decide)) fun _ => Be.ite (fun _ => ?_) fun n1 => Be.ite (fun _ => ?_) fun n4 => Be.ite (fun _ => ?_) fun n6 => Be.ite (fun _ => ?_) fun n7 => ?_
 ·exact (Be.bind (lookE_be e _ he) (by decide) (fun t => fin _ _ _ _ _) (fun t => fim _ _ _ _ _)).mono (by omega) (by decide)
 ·exact (Be.bind Be.take (by decide) (fun b => Be.bind ((hv.at 0).be _ (he.cons (Be.pure b))) (by omega) (fun t => fin _ _ _ _ _) (fun t => fim _ _ _ _ _)) (fun b => Mn.bind ((hv.at 0).mn _) fun t => fim _ _ _ _ _)).mono (by omega) (by decide)
 ·exact (Be.bind (letP_be hm h ((hv.at 0).be e he) (by decide) (fun c hc => (hv.at 1).be _ (he.cons hc)) (fun c => (hv.at 1).mn _)) (by omega) (fun t => fin _ _ _ _ _) (fun t => fim _ _ _ _ _)).mono (by omega) (by decide)
 ·refine (Be.bind (letP_be hm h (s := 1 + k.getD 0 0) (d := -1) ?_ (by decide) (fun c hc => (hv.at 1).be _ (he.cons hc)) (fun c => (hv.at 1).mn _)) (by omega) (fun t => fin _ _ _ _ _) (fun t => fim _ _ _ _ _)).mono (by omega) (by decide)
  exact (Be.bind Be.take (by decide) (fun v => Be.bind ((hv.at 0).be _ (he.cons (Be.pure v))) (by omega) (fun t => fin _ _ _ _ _) (fun t => fim _ _ _ _ _)) (fun v => Mn.bind ((hv.at 0).mn _) fun t => fim _ _ _ _ _)).mono (by omega) (by decide)
 refine (Be.bind (t := 0) (e := -2) (hv.map.2 he) (by omega) (fun p => ?_) (fun p => ?_)).mono (by omega) (by decide)
 ·refine Be.ite (fun _ => fin _ _ _ _ _) fun n5 => Be.ite (fun _ => ?_) fun n8 => Be.ite (fun _ => fin _ _ _ _ _) fun n9 => Be.ite (fun _ => ?_) fun n10 => ?_
  ·exact (Be.bind (Be.eqn hm _ _ _ _) (by decide) (fun _ => Be.bind (Be.eqn hm _ _ _ _) (by decide) (fun _ => fin _ _ _ _ _) (fun _ => fim _ _ _ _ _)) (fun _ => Mn.bind (Mn.eqn hm _ _ _ _) fun _ => fim _ _ _ _ _)).mono (by omega) (by decide)
  ·exact (Be.bind (Be.eqn hm _ _ _ _) (by decide) (fun _ => fin _ _ _ _ _) (fun _ => fim _ _ _ _ _)).mono (by omega) (by decide)
  ·omega
 ·exact Mn.ite (fim _ _ _ _ _) (Mn.ite (Mn.bind (Mn.eqn hm _ _ _ _) fun _ => Mn.bind (Mn.eqn hm _ _ _ _) fun _ => fim _ _ _ _ _) (Mn.ite (fim _ _ _ _ _) (Mn.ite (Mn.bind (Mn.eqn hm _ _ _ _) fun _ => fim _ _ _ _ _) (Mn.pure _))))
def valsS : To -> List Nat
 | .nil => []
 | .cons _ ps r => (2 + (valsS ps).sum) :: valsS r
theorem valsS_sum : ∀ f : To, (valsS f).sum = 2 * f.size
 | .nil => rfl
 | .cons _ ps r => by
  show ((2 + (valsS ps).sum) :: valsS r).sum = 2 * (To.cons _ ps r).size
  rw [List.sum_cons, valsS_sum ps, valsS_sum r]
  simp only [To.size]; omega
theorem valsM_be {M : Nat} {most : Int} (hm : most <= M) : ∀ f : To, okK f -> VsBe M (valsM most f) (valsS f)
 | .nil, _ => .nil
 | .cons h ps r, ⟨a, b, c⟩ => .cons (oneM_be hm h ps ⟨a.1, a.2.1⟩ (valsM_be hm ps b)) (valsM_be hm r c)
theorem run_next {M : Nat} {most : Int} (hm : most <= M) (h : Nd) (ps : To) (hk : okK (.cons h ps .nil)) : (termM most h ps [] ⟨[], 0, false⟩).2.next <= 4 * M + 2 * ps.size + 2 := by
 have h1 := (oneM_be hm h ps ⟨hk.1.1, hk.1.2.1⟩ (valsM_be hm ps hk.2.1)).be [] (fun x hx => by cases hx) ⟨[], 0, false⟩ (Nat.zero_le _) rfl
 rw [valsS_sum] at h1
 show (oneM most h ps (valsM most ps) [] ⟨[], 0, false⟩).2.next <= _
 generalize (oneM most h ps (valsM most ps) [] ⟨[], 0, false⟩).2 = q at *
 obtain ⟨_, b, c⟩ := h1
 simp only [List.length_nil] at c
 rcases c with ⟨_, c⟩ | ⟨_, c⟩ <;> omega
end Em
end
section
open Go.RowKit
namespace Em
abbrev NBd : Nat := 500000000
def MeanT (most : Int) (pb lo : Nat) (W0 : World) (v : Value) (f : Pm Ty) : Prop := ∃ (F : Nat) (lb : Array Value), v = .func (.func F) #[] lb /\ (∀ args w, (callFunc F args).run Tryz.prog w = .ok (.enter F args) w) /\
 ∀ (W : World) (X : Nat -> Prop) (mk : Mk) (a b : Int), Later pb W0 W -> MkE X most pb W mk -> lo <= mk.next -> (f mk).2.next <= NBd -> Calls Tryz.prog F (#[.pointer (some ⟨pb, 0, none⟩), .agg #[.int .i64 a, .int .i64 b]] ++ lb) W (MkQ X most pb W (f mk))
theorem MeanT.later {most : Int} {pb lo lo' : Nat} {W0 W1 : World} {v : Value} {f : Pm Ty} (h : MeanT most pb lo W0 v f) (hl : Later pb W0 W1) (hlo : lo <= lo') : MeanT most pb lo' W1 v f := by
 obtain ⟨F, lb, h1, h2, h3⟩ := h
 exact ⟨F, lb, h1, h2, fun W X mk a b hw hm hn => h3 W X mk a b (hl.trans hw) hm (by omega)⟩
inductive EnvM (most : Int) (pb lo : Nat) (W0 : World) : FEnv -> Env -> Prop
 | nil : EnvM most pb lo W0 [] []
 | cons {s : ByteArray} {v : Value} {f : Pm Ty} {e : FEnv} {E : Env} : MeanT most pb lo W0 v f -> NM f -> EnvM most pb lo W0 e E -> EnvM most pb lo W0 ((s, v) :: e) ((s, f) :: E)
theorem EnvM.later {most : Int} {pb lo lo' : Nat} {W0 W1 : World} {e : FEnv} {E : Env} (h : EnvM most pb lo W0 e E) (hl : Later pb W0 W1) (hlo : lo <= lo') : EnvM most pb lo' W1 e E := by
 induction h with
 | nil => exact .nil
 | cons h1 h2 _ ih => exact .cons (h1.later hl hlo) h2 ih
theorem EnvM.ne {most : Int} {pb lo : Nat} {W0 : World} {e : FEnv} {E : Env} (h : EnvM most pb lo W0 e E) : NE E := by
 induction h with
 | nil => exact NE.nil
 | cons _ h2 _ ih => exact ih.cons h2
def lookF : FEnv -> ByteArray -> Option Value
 | [], _ => none
 | x :: r, s => if x.1 = s then some x.2 else lookF r s
theorem EnvM.look {most : Int} {pb lo : Nat} {W0 : World} {e : FEnv} {E : Env} (h : EnvM most pb lo W0 e E) {s : ByteArray} {v : Value} (hv : lookF e s = some v) : MeanT most pb lo W0 v (lookE E s) := by
 induction h with
 | nil => cases hv
 | cons h1 _ _ ih =>
  unfold lookF at hv
  unfold lookE
  split at hv
  ·next hs =>
   cases hv
   rw [if_pos hs]; exact h1
  ·next hs => rw [if_neg hs]; exact ih hv
theorem lookF_some : ∀ (e : FEnv) (s : ByteArray), s ∈ e.map Prod.fst -> ∃ v, lookF e s = some v
 | [], s, h => by cases h
 | x :: r, s, h => by
  unfold lookF
  by_cases hs : x.1 = s
  ·exact ⟨x.2, by rw [if_pos hs]⟩
  ·rw [if_neg hs]
   refine lookF_some r s ?_
   rcases List.mem_cons.1 h with h | h
   ·exact absurd h.symm hs
   ·exact h
def lookAt (e : FEnv) (s : ByteArray) (i : Nat) : Option Value := lookF (e.drop (e.length - i)) s
theorem lookAt_succ {e : FEnv} {s : ByteArray} {i : Nat} {x : ByteArray × Value} (hi : e.reverse[i]? = some x) : lookAt e s (i + 1) = if x.1 = s then some x.2 else lookAt e s i := by
 have hl := (List.getElem?_eq_some_iff.1 hi).1
 simp at hl
 have hx : e[e.length - (i + 1)]? = some x := by
  rw [List.getElem?_reverse (by simpa using hl)] at hi
  rw [<- hi]; congr 1
  omega
 have hd : e.drop (e.length - (i + 1)) = x :: e.drop (e.length - i) := by
  obtain ⟨h1, h2⟩ := List.getElem?_eq_some_iff.1 hx
  rw [List.drop_eq_getElem_cons h1, h2]
  congr 2; omega
 unfold lookAt
 rw [hd]; rfl
theorem lookAt_all (e : FEnv) (s : ByteArray) : lookAt e s e.length = lookF e s := by unfold lookAt; simp
theorem look_any (T : Nat -> Prop) (e : FEnv) (s : ByteArray) (v : Value) (o : Option Addr) (n c : Nat) (w : World) (h : BfIn T w o n e) (hn : n <= 1000000) (hv : lookF e s = some v) :
    Calls Tryz.prog 67 #[.slice o n c, .string s] w fun x w' => x = .returned v /\ w = w' := by
 have HN := hid h
 have HL := hid h.1
 have HV : Hid (lookAt e s n = some v) := by show _ = _; rw [h.1, lookAt_all]; exact hv
 clear h hv
 go_enter Tryz.func67, Tryz.ntmps67
 go_wp2_with fail
 go_step3
 go_wp2_with fail
 go_step3
 go_wp2_with fail
 go_loopw [5, 6] (fun f t wr => ∃ i : Nat, t = .int .i64 ((i : Int) - 1) /\ f = .nilFunc /\ i <= n /\ lookAt e s i = some v /\ w = wr) (fun _ t _ => (intOf t + 1).toNat)
 case atStart => exact ⟨n, rfl, rfl, Nat.le_refl _, HV.out, rfl⟩
 case round =>
  obtain ⟨i, rfl, rfl, hi, ha, rfl⟩ := hrel
  have HA := hid ha
  clear ha
  cases i with
  | zero => exact absurd HA.out (by unfold lookAt; simp [lookF])
  | succ i =>
   obtain ⟨x, hx⟩ : ∃ x, e.reverse[i]? = some x := ⟨_, List.getElem?_eq_getElem (by rw [List.length_reverse]; have := HL.out; omega)⟩
   obtain ⟨b, rfl, c0, c1⟩ := HN.out.at hx
   have HS := hid (lookAt_succ (s := s) hx)
   have hlt : i < n := by omega
   rw [show ((i + 1 : Nat) : Int) - 1 = (i : Int) by omega]
   by_cases hxs : x.1 = s
   ·have he : (x.1.toList == s.toList) = true := by simp [hxs]
    have HV2 : Hid (x.2 = v) := by
     show _ = _
     have h1 := HS.out
     rw [HA.out, if_pos hxs] at h1
     exact (Option.some.inj h1).symm
    clear hx
    go_wp2_with fail
    try rw [Exit.noGoto_ret]
    go_ret
    exact ⟨congrArg Ending.returned HV2.out, rfl⟩
   ·have he : (x.1.toList == s.toList) = false := by
      cases hc : (x.1.toList == s.toList)
      ·rfl
      ·exact absurd (Sc.str_eq.1 hc) hxs
    have HV2 : Hid (lookAt e s i = some v) := by
     show _ = _
     have h1 := HS.out
     rw [HA.out, if_neg hxs] at h1
     exact h1.symm
    clear hx
    go_wp2_with fail
    go_roundw
    case rel => exact ⟨i, rfl, rfl, by omega, HV2.out, trivial⟩
    case measure => first | (simp [intOf]; done) | (simp [intOf]; omega)
theorem eg_single : ∀ args w, (callFunc 98 args).run Tryz.prog w = .ok (.enter 98 args) w := enters_of Tryz.func98 (by kernel_rfl) rfl
theorem single1_any {X : Nat -> Prop} {most : Int} {pb n cb : Nat} {W : World} {mk : Mk} {o : Option Addr} {cap : Nat} (a b : Int) (hb : W.heap[cb]? = some (.cells #[.int .i64 1, .int .i64 n, .slice o 0 cap] 24 (0, 0))) (h : MkE X most pb W mk) :
    Calls Tryz.prog 98 #[.pointer (some ⟨pb, 0, none⟩), .agg #[.int .i64 a, .int .i64 b], .pointer (some ⟨cb, 0, none⟩)] W (MkQ X most pb W (tv n, mk)) := by
 obtain ⟨W1, hW1⟩ : ∃ W1, W1 = (W.alloc (.cells #[.int .i64 a, .int .i64 b] 27)).alloc (.cells #[.int .i64 0, .int .i64 0, .slice none 0 0] 24) := ⟨_, rfl⟩
 have HQ1 : Hid (Quiet0 W W1) := by rw [hW1]; exact (Quiet0.alloc _ _).trans (Quiet0.alloc _ _)
 have HB1 : Hid (W1.heap[W.heap.size + 1]? = some (.cells #[.int .i64 0, .int .i64 0, .slice none 0 0] 24 (0, 0))) := by
  show _ = _; rw [hW1]
  have := heap_alloc_new (W.alloc (.cells #[.int .i64 a, .int .i64 b] 27)) (.cells #[.int .i64 0, .int .i64 0, .slice none 0 0] 24)
  simpa using this
 have hz1 : W1.heap.size = W.heap.size + 2 := by rw [hW1]; simp
 obtain ⟨a0, a1, a2, _, _, _⟩ := box_cells3 (box_after hb HQ1.out)
 obtain ⟨d0, d1, d2, y0, y1, y2⟩ := box_cells3 HB1.out
 have HH := hid (h.more HQ1.out (fun i => i = W.heap.size + 1) (fun i hi => by subst hi; omega))
 have HP := hid h.lt
 clear h hb hz1
 unfold MkQ
 unfold tyv
 go_enter Tryz.func98, Tryz.ntmps98
 generalize hB : W.heap.size = B at *
 go_upto_region 1 with fail
 rw [<- hW1]
 clear hW1
 go_wp2_with fail
 have hf := put3_fr W1 (B + 1) (.int .i64 1) (.int .i64 n) (.slice o 0 cap)
 obtain ⟨f0, f1, f2⟩ := put3_cells (a := .int .i64 1) (b := .int .i64 n) (c := .slice o 0 cap) HB1.out
 change bodyPost _ _ _ _ _ (put3 W1 (B + 1) (.int .i64 1) (.int .i64 n) (.slice o 0 cap))
 generalize put3 W1 (B + 1) (.int .i64 1) (.int .i64 n) (.slice o 0 cap) = wf at *
 refine bodyPost_ret (by simp [results, Tryz.results98, go_sem, f0, f1, f2]; rfl) rfl ?_
 have hp : pb < W.heap.size := by rw [hB]; exact HP.out
 exact ⟨n, o, cap, rfl, rfl, (HH.out.put (hf.mono (fun i _ e => .inr e))).less (fun i hi => .inl hi), (Later.of_quiet HQ1.out hp).put hf hp (fun i hi => by omega)⟩
theorem single_any {X : Nat -> Prop} {most : Int} {pb n lo : Nat} {W : World} {mk : Mk} {o : Option Addr} {cap : Nat} (h : MkE X most pb W mk) :
    Calls Tryz.prog 69 #[tyv 1 n o 0 cap] W fun x w' => ∃ bs ls, x = .returned (.func bs #[] ls) /\ MeanT most pb lo w' (.func bs #[] ls) (pu (tv n)) /\ Quiet0 W w' := by
 have hb := heap_alloc_new W (.cells #[.int .i64 1, .int .i64 n, .slice o 0 cap] 24)
 have hq := Quiet0.alloc W (.cells #[.int .i64 1, .int .i64 n, .slice o 0 cap] 24)
 have htf := h.fresh hq (Nat.le_refl _)
 have HF : Hid (MeanT most pb lo (W.alloc (.cells #[.int .i64 1, .int .i64 n, .slice o 0 cap] 24)) (.func (.func 98) #[] #[.pointer (some ⟨W.heap.size, 0, none⟩)]) (pu (tv n))) :=
  ⟨_, _, rfl, eg_single, fun W' X' mk' a b hl hm _ _ => single1_any a b (blk_fr hl.fr (fun e => e.elim htf.1 htf.2.1) hb) hm⟩
 have HQ := hid hq
 clear h hb hq htf
 unfold tyv
 go_enter Tryz.func69, Tryz.ntmps69
 go_wp2_with fail
 go_ret
 exact ⟨_, _, rfl, HF.out, HQ.out⟩
end Em
end
section
open Go.RowKit Go.Maps
theorem eg_shift : ∀ args w, (callFunc 128 args).run Tryz.prog w = .ok (.enter 128 args) w := enters_of Tryz.func128 (by kernel_rfl) rfl
end
section
open Go.RowKit Go.Maps
namespace Em
theorem shift1F_any (w0 : World) (ca cb cc : Nat) (fr tt by' : Nat) (h1 : Box1 w0 ca (.int .i64 fr) 3) (h2 : Box1 w0 cb (.int .i64 tt) 3) (h3 : Box1 w0 cc (.int .i64 by') 3) (hb : tt + by' <= 1000000000) :
    DoK 128 #[.pointer (some ⟨ca, 0, none⟩), .pointer (some ⟨cb, 0, none⟩), .pointer (some ⟨cc, 0, none⟩)] w0 (fun _ => True) (shN fr tt by') := by
 intro n W _ hq
 have c1 := cell_of_one (h1.fr hq (fun h => h))
 have c2 := cell_of_one (h2.fr hq (fun h => h))
 have c3 := cell_of_one (h3.fr hq (fun h => h))
 clear h1 h2 h3 hq
 unfold shN
 by_cases p1 : n < (fr : Int)
 ·rw [if_neg (by omega)]
  go_enter Tryz.func128, Tryz.ntmps128
  go_wp2_with fail
  go_ret
  exact ⟨rfl, Quiet0.refl _⟩
 ·by_cases p2 : (tt : Int) <= n
  ·rw [if_neg (by omega)]
   go_enter Tryz.func128, Tryz.ntmps128
   go_wp2_with fail
   go_ret
   exact ⟨rfl, Quiet0.refl _⟩
  ·rw [if_pos (by omega)]
   have q3 : ¬ (1073741824 : Int) <= (by' : Int) := by omega
   have q4 : ¬ (by' : Int) <= -1073741824 := by omega
   have hw : IntKind.i64.wrap (n + by') = n + by' := IntWalk.i64_in _ (by omega)
   have HK1 := hid (known_any n)
   rw [show (decide ((0 : Int) <= n) && decide (n < 1073741824)) = true from by simp; omega] at HK1
   have HK2 := hid (known_any (n + by'))
   rw [show (decide ((0 : Int) <= n + by') && decide (n + by' < 1073741824)) = true from by simp; omega] at HK2
   go_enter Tryz.func128, Tryz.ntmps128
   go_wp2_with fail
   refine (HK1.out _).mono ?_; rintro e w1 ⟨rfl, rfl⟩
   go_wp2_with fail
   refine (HK2.out _).mono ?_; rintro e w1 ⟨rfl, rfl⟩
   go_wp2_with fail
   go_ret
   exact ⟨rfl, Quiet0.refl _⟩
theorem shiftF_any (k n : Int) (fr tt by' : Nat) (ps : Fo) (w : World) (o : Option Addr) (len cap : Nat) (hs : Slc w o len ps) (hb : tt + by' <= 1000000000) (hsz : ps.size <= 100000) :
    Calls Tryz.prog 118 #[tyv k n o len cap, .int .i64 fr, .int .i64 tt, .int .i64 by'] w fun e w' => ∃ o' cap', e = .returned (tyv k (newN (shN fr tt by') k n) o' len cap') /\ SlcIn (fun b => w.heap.size <= b) w' o' len (ps.change (shN fr tt by')) /\ Quiet0 w w' := by
 obtain ⟨W1, hW1⟩ : ∃ W1, W1 = ((((w.alloc (.cells #[.int .i64 k, .int .i64 n, .slice o len cap] 24)).alloc (.cells #[.int .i64 fr] 3)).alloc (.cells #[.int .i64 tt] 3)).alloc (.cells #[.int .i64 by'] 3)).alloc (.cells #[.int .i64 0, .int .i64 0, .slice none 0 0] 24) := ⟨_, rfl⟩
 have HQ1 : Hid (Quiet0 w W1) := by rw [hW1]; exact ((((Quiet0.alloc _ _).trans (Quiet0.alloc _ _)).trans (Quiet0.alloc _ _)).trans (Quiet0.alloc _ _)).trans (Quiet0.alloc _ _)
 have s1 : (w.alloc (.cells #[.int .i64 k, .int .i64 n, .slice o len cap] 24)).heap.size = w.heap.size + 1 := by simp
 have s2 : ((w.alloc (.cells #[.int .i64 k, .int .i64 n, .slice o len cap] 24)).alloc (.cells #[.int .i64 fr] 3)).heap.size = w.heap.size + 1 + 1 := by simp
 have s3 : (((w.alloc (.cells #[.int .i64 k, .int .i64 n, .slice o len cap] 24)).alloc (.cells #[.int .i64 fr] 3)).alloc (.cells #[.int .i64 tt] 3)).heap.size = w.heap.size + 1 + 1 + 1 := by simp
 have s4 : ((((w.alloc (.cells #[.int .i64 k, .int .i64 n, .slice o len cap] 24)).alloc (.cells #[.int .i64 fr] 3)).alloc (.cells #[.int .i64 tt] 3)).alloc (.cells #[.int .i64 by'] 3)).heap.size = w.heap.size + 1 + 1 + 1 + 1 := by simp
 have hb0' : W1.heap[w.heap.size]? = some (.cells #[.int .i64 k, .int .i64 n, .slice o len cap] 24 (0, 0)) := by
  rw [hW1]; exact box_after (heap_alloc_new w _) ((((Quiet0.alloc _ _).trans (Quiet0.alloc _ _)).trans (Quiet0.alloc _ _)).trans (Quiet0.alloc _ _))
 have HB1 : Hid (W1.heap[w.heap.size + 1 + 1 + 1 + 1]? = some (.cells #[.int .i64 0, .int .i64 0, .slice none 0 0] 24 (0, 0))) := by
  rw [hW1, <- s4]; exact heap_alloc_new _ _
 have x1 : Box1 W1 (w.heap.size + 1) (.int .i64 fr) 3 := by
  rw [hW1, <- s1]; exact (Box1.new _ _ _).fr (((Quiet0.alloc _ _).trans (Quiet0.alloc _ _)).trans (Quiet0.alloc _ _)) (fun h => h)
 have x2 : Box1 W1 (w.heap.size + 1 + 1) (.int .i64 tt) 3 := by
  rw [hW1, <- s2]; exact (Box1.new _ _ _).fr ((Quiet0.alloc _ _).trans (Quiet0.alloc _ _)) (fun h => h)
 have x3 : Box1 W1 (w.heap.size + 1 + 1 + 1) (.int .i64 by') 3 := by
  rw [hW1, <- s3]; exact (Box1.new _ _ _).fr (Quiet0.alloc _ _) (fun h => h)
 have HD := hid (change_any eg_shift (shift1F_any W1 (w.heap.size + 1) (w.heap.size + 1 + 1) (w.heap.size + 1 + 1 + 1) fr tt by' x1 x2 x3 hb) k n ps W1 o len cap (Quiet0.refl _) (hs.stay HQ1.out) (by omega) trivial (allF_true (fun _ => trivial) ps))
 obtain ⟨a0, a1, a2, _, _, _⟩ := box_cells3 hb0'
 have hz1 : w.heap.size + 1 + 1 + 1 + 1 < W1.heap.size := by rw [hW1]; simp
 obtain ⟨P, hP⟩ : ∃ P, P = shN fr tt by' := ⟨_, rfl⟩
 rw [<- hP] at HD ⊢
 generalize newN P k n = n' at *
 clear hs s1 s2 s3 s4 x1 x2 x3 hb0' hP
 unfold tyv at *
 go_enter Tryz.func118, Tryz.ntmps118
 generalize hB : w.heap.size = B at *
 go_upto_region 1 with fail
 rw [<- hW1]
 clear hW1
 go_wp2_with fail
 refine HD.out.mono ?_; rintro e w4 ⟨o2, cap2, rfl, hs4, hq4⟩
 have hbb := box_after HB1.out hq4
 have HB4 := hid hbb
 obtain ⟨d0, d1, d2, y0, y1, y2⟩ := box_cells3 hbb
 have HS4 := hid hs4
 have HQ4 := hid hq4
 clear hs4 hq4 hbb a0 a1 a2
 go_wp2_with fail
 clear d0 d1 d2 y0 y1 y2
 have hf := put3_fr w4 (B + 1 + 1 + 1 + 1) (.int .i64 k) (.int .i64 n') (.slice o2 len cap2)
 obtain ⟨f0, f1, f2⟩ := put3_cells (a := .int .i64 k) (b := .int .i64 n') (c := .slice o2 len cap2) HB4.out
 change bodyPost _ _ _ _ _ (put3 w4 (B + 1 + 1 + 1 + 1) (.int .i64 k) (.int .i64 n') (.slice o2 len cap2))
 generalize put3 w4 (B + 1 + 1 + 1 + 1) (.int .i64 k) (.int .i64 n') (.slice o2 len cap2) = wf at *
 refine bodyPost_ret (by simp [results, Tryz.results118, go_sem, f0, f1, f2]; rfl) rfl ?_
 refine ⟨o2, cap2, rfl, HS4.out.fr hf ?_, ?_⟩
 ·intro j _ hj
  have hj' : W1.heap.size <= j := hj
  exact ⟨by have := HQ1.out.size; omega, by omega⟩
 ·exact Fr.trans' (Fr.trans' HQ1.out HQ4.out (fun _ _ h => h)) hf (fun i hi h => by have h' : i = B + 1 + 1 + 1 + 1 := h; omega)
theorem shift11_any (k n : Int) (fr tt by' : Nat) (ps : Fo) (w : World) (o : Option Addr) (len cap : Nat) (ca cb cc : Nat) (h1 : Box1 w ca (.int .i64 fr) 3) (h2 : Box1 w cb (.int .i64 tt) 3) (h3 : Box1 w cc (.int .i64 by') 3) (hs : Slc w o len ps) (hb : tt + by' <= 1000000000) (hsz : ps.size <= 100000) :
    Calls Tryz.prog 117 #[tyv k n o len cap, .pointer (some ⟨ca, 0, none⟩), .pointer (some ⟨cb, 0, none⟩), .pointer (some ⟨cc, 0, none⟩)] w fun e w' => ∃ o' cap', e = .returned (tyv k (newN (shN fr tt by') k n) o' len cap') /\ SlcIn (fun b => w.heap.size <= b) w' o' len (ps.change (shN fr tt by')) /\ Quiet0 w w' := by
 obtain ⟨W1, hW1⟩ : ∃ W1, W1 = (w.alloc (.cells #[.int .i64 k, .int .i64 n, .slice o len cap] 24)).alloc (.cells #[.int .i64 0, .int .i64 0, .slice none 0 0] 24) := ⟨_, rfl⟩
 have HQ1 : Hid (Quiet0 w W1) := by rw [hW1]; exact (Quiet0.alloc _ _).trans (Quiet0.alloc _ _)
 have hb0 : W1.heap[w.heap.size]? = some (.cells #[.int .i64 k, .int .i64 n, .slice o len cap] 24 (0, 0)) := by
  rw [hW1]; exact box_after (heap_alloc_new w _) (Quiet0.alloc _ _)
 have HB1 : Hid (W1.heap[w.heap.size + 1]? = some (.cells #[.int .i64 0, .int .i64 0, .slice none 0 0] 24 (0, 0))) := by
  show _ = _; rw [hW1]
  have := heap_alloc_new (w.alloc (.cells #[.int .i64 k, .int .i64 n, .slice o len cap] 24)) (.cells #[.int .i64 0, .int .i64 0, .slice none 0 0] 24)
  simpa using this
 have HC := hid (shiftF_any k n fr tt by' ps W1 o len cap (hs.stay HQ1.out) hb hsz)
 have c1 := cell_of_one (h1.fr HQ1.out (fun h => h))
 have c2 := cell_of_one (h2.fr HQ1.out (fun h => h))
 have c3 := cell_of_one (h3.fr HQ1.out (fun h => h))
 obtain ⟨a0, a1, a2, _, _, _⟩ := box_cells3 hb0
 have hz1 : w.heap.size + 1 < W1.heap.size := by rw [hW1]; simp
 generalize newN (shN fr tt by') k n = n' at *
 obtain ⟨P, hP⟩ : ∃ P, P = shN fr tt by' := ⟨_, rfl⟩
 rw [<- hP] at HC ⊢
 clear h1 h2 h3 hs hb0 hP
 unfold tyv at *
 go_enter Tryz.func117, Tryz.ntmps117
 generalize hB : w.heap.size = B at *
 go_upto_region 1 with fail
 rw [<- hW1]
 clear hW1
 go_wp2_with fail
 refine HC.out.mono ?_; rintro e w4 ⟨o2, cap2, rfl, hs4, hq4⟩
 have hbb := box_after HB1.out hq4
 have HB4 := hid hbb
 obtain ⟨d0, d1, d2, y0, y1, y2⟩ := box_cells3 hbb
 have HS4 := hid hs4
 have HQ4 := hid hq4
 clear hs4 hq4 hbb a0 a1 a2 c1 c2 c3
 go_wp2_with fail
 clear d0 d1 d2 y0 y1 y2
 have hf := put3_fr w4 (B + 1) (.int .i64 k) (.int .i64 n') (.slice o2 len cap2)
 obtain ⟨f0, f1, f2⟩ := put3_cells (a := .int .i64 k) (b := .int .i64 n') (c := .slice o2 len cap2) HB4.out
 change bodyPost _ _ _ _ _ (put3 w4 (B + 1) (.int .i64 k) (.int .i64 n') (.slice o2 len cap2))
 generalize put3 w4 (B + 1) (.int .i64 k) (.int .i64 n') (.slice o2 len cap2) = wf at *
 refine bodyPost_ret (by simp [results, Tryz.results117, go_sem, f0, f1, f2]; rfl) rfl ?_
 refine ⟨o2, cap2, rfl, HS4.out.fr hf ?_, ?_⟩
 ·intro j _ hj
  have hj' : W1.heap.size <= j := hj
  exact ⟨by have := HQ1.out.size; omega, by omega⟩
 ·exact Fr.trans' (Fr.trans' HQ1.out HQ4.out (fun _ _ h => h)) hf (fun i hi h => by have h' : i = B + 1 := h; omega)
end Em
end
section
open Go.RowKit
namespace Em
theorem with_ml {X : Nat -> Prop} {most : Int} {pb : Nat} {w0 W w3 : World} {k : Mk} {G : Prop} (hl : Later pb w0 W) (hm : MkE X most pb W k) (hq : Quiet0 W w3) (g : Later pb w0 w3 -> MkE X most pb w3 k -> G) : G := g (hl.trans (Later.of_quiet hq hm.lt)) (hm.stay hq)
theorem with_lt {pb : Nat} {w0 W w3 : World} {G : Prop} (hl : Later pb w0 W) (hq : Later pb W w3) (g : Later pb w0 w3 -> G) : G := g (hl.trans hq)
theorem slc_st {X : Nat -> Prop} {most : Int} {pb : Nat} {W W' : World} {k : Mk} {o : Option Addr} {len : Nat} {f : Fo} (hm : MkE X most pb W k) (hq : Quiet0 W W') (h : SlcIn (TF X pb W) W o len f) : SlcIn (TF X pb W') W' o len f := slc_later h (Later.of_quiet hq hm.lt)
def Bx (pb : Nat) (W : World) (b : Nat) (cs : Array Value) (t : TypeId) : Prop := W.heap[b]? = some (.cells cs t (0, 0)) /\ ¬ (b = pb ∨ Rw pb W b)
theorem Bx.later {pb : Nat} {W W' : World} {b : Nat} {cs : Array Value} {t : TypeId} (h : Bx pb W b cs t) (hl : Later pb W W') : Bx pb W' b cs t := by
 have hb := lt_of_block h.1
 exact ⟨blk_fr hl.fr h.2 h.1, fun e => e.elim (fun e => h.2 (.inl e)) (fun e => (hl.row b e).elim (fun e => h.2 (.inr e)) (fun e => by omega))⟩
theorem Bx.new {X : Nat -> Prop} {most : Int} {pb : Nat} {W W' : World} {k : Mk} (h : MkE X most pb W k) (hq : Quiet0 W W') {b : Nat} {cs : Array Value} {t : TypeId} (hi : W.heap.size <= b) (hb : W'.heap[b]? = some (.cells cs t (0, 0))) : Bx pb W' b cs t := by
 have := h.fresh hq hi
 exact ⟨hb, fun e => e.elim this.1 this.2.1⟩
def KeptAt (pb : Nat) (W : World) (o : Option Addr) (l : List Eqn) : Prop := l = [] ∨ ∃ g off, o = some ⟨g, off, none⟩ /\ ∀ W', Later pb W W' -> QAt (TF (fun _ => False) pb W') W' g off l
theorem KeptAt.later {pb : Nat} {W W' : World} {o : Option Addr} {l : List Eqn} (h : KeptAt pb W o l) (hl : Later pb W W') : KeptAt pb W' o l := by
 rcases h with h | ⟨g, off, h1, h2⟩
 ·exact .inl h
 ·exact .inr ⟨g, off, h1, fun W2 hl2 => h2 W2 (hl.trans hl2)⟩
def ShQ (W : World) (t : Ty) (len : Nat) (e : Ending) (w' : World) : Prop := ∃ o' cap', e = .returned (.agg #[.int .i64 t.1, .int .i64 t.2.1, .slice o' len cap']) /\ SlcIn (fun b => W.heap.size <= b) w' o' len t.2.2 /\ Quiet0 W w'
def ShV (W : World) (n : Nat) (e : Ending) (w' : World) : Prop := ∃ o' cap', e = .returned (.agg #[.int .i64 1, .int .i64 n, .slice o' 0 cap']) /\ Quiet0 W w'
theorem sh_any (t : Ty) (fr tt by' : Nat) (w : World) (o : Option Addr) (len cap : Nat) (ca cb cc : Nat) (h1 : Box1 w ca (.int .i64 fr) 3) (h2 : Box1 w cb (.int .i64 tt) 3) (h3 : Box1 w cc (.int .i64 by') 3) (hs : Slc w o len t.2.2) (hb : tt + by' <= 1000000000) (hsz : t.2.2.size <= 100000) :
    Calls Tryz.prog 117 #[tyv t.1 t.2.1 o len cap, .pointer (some ⟨ca, 0, none⟩), .pointer (some ⟨cb, 0, none⟩), .pointer (some ⟨cc, 0, none⟩)] w (ShQ w (shT fr tt by' t) len) :=
 shift11_any t.1 t.2.1 fr tt by' t.2.2 w o len cap ca cb cc h1 h2 h3 hs hb hsz
theorem with_slc {X : Nat -> Prop} {most : Int} {pb : Nat} {W w3 : World} {k : Mk} {o : Option Addr} {len : Nat} {f : Fo} {G : Prop} (hm : MkE X most pb W k) (hq : Quiet0 W w3) (h : SlcIn (TF X pb W) W o len f) (g : SlcIn (TF X pb w3) w3 o len f -> G) : G := g (slc_st hm hq h)
theorem with_new {X : Nat -> Prop} {most : Int} {pb : Nat} {W w3 : World} {k : Mk} {o : Option Addr} {len : Nat} {f : Fo} {G : Prop} (hm : MkE X most pb W k) (hq : Quiet0 W w3) (h : SlcIn (fun b => W.heap.size <= b) w3 o len f) (g : SlcIn (TF X pb w3) w3 o len f -> G) : G := g (hm.new hq h)
theorem shT_tv (fr tt d n : Nat) : ∃ n', shT fr tt d (tv n) = tv n' := by
 refine ⟨if fr <= n /\ n < tt then n + d else n, ?_⟩
 show ((1, shN fr tt d (n : Int), Fo.nil) : Ty) = (1, ((if fr <= n /\ n < tt then n + d else n : Nat) : Int), Fo.nil)
 unfold shN
 by_cases h : fr <= n /\ n < tt
 ·rw [if_pos h, if_pos (by omega)]; push_cast; rfl
 ·rw [if_neg h, if_neg (by omega)]
def ByR (W0 : World) (b by' : Nat) (v : Value) (wx : World) : Prop := v = .pointer (some ⟨b, 0, none⟩) /\ Box1 wx b (.int .i64 by') 3 /\ Quiet0 W0 wx
theorem ByR.drew {W0 : World} {b by' : Nat} {v : Value} {wx : World} (h : ByR W0 b by' v wx) : ByR W0 b by' v wx.drew := ⟨h.1, h.2.1.fr (Quiet0.drew wx) (fun h => h), h.2.2.trans (Quiet0.drew _)⟩
theorem byR_end {W0 : World} {b by' : Nat} (hz : W0.heap.size = b) : ByR W0 b by' (.pointer (some ⟨b, 0, none⟩)) (W0.alloc (.cells #[.int .i64 by'] 3)) := by
 subst hz
 exact ⟨rfl, Box1.new _ _ _, Quiet0.alloc _ _⟩
theorem MkE.bump {X : Nat -> Prop} {most : Int} {pb : Nat} {W : World} {k : Mk} (h : MkE X most pb W k) (d : Nat) : MkE X most pb (W.setCell ⟨pb, 1, none⟩ (.int .i64 ((k.next : Int) + d))) { k with next := k.next + d } /\ Later pb W (W.setCell ⟨pb, 1, none⟩ (.int .i64 ((k.next : Int) + d))) := by
 obtain ⟨o, c, xs, h⟩ := h
 obtain ⟨h1, h2⟩ := h.box_set (k' := { k with next := k.next + d }) 1 (.int .i64 ((k.next : Int) + d)) (by decide) rfl (by simp)
 exact ⟨⟨o, c, xs, h1⟩, h2⟩
def CpI (X : Nat -> Prop) (most : Int) (pb : Nat) (W2 : World) (sh : Ty -> Ty) (kept : List Eqn) (fin : Mk) (t : Value) (wr : World) : Prop :=
 ∃ (i : Nat) (mki : Mk), t = .int .i64 i /\ i <= kept.length /\ (keptP most sh (kept.drop i) mki).2 = fin /\ MkE X most pb wr mki /\ Later pb W2 wr
theorem copied1_any {X : Nat -> Prop} {most : Int} {pb : Nat} {W : World} {mk : Mk} (hmk0 : MkE X most pb W mk) (hm : most <= 4096) (n fr tt : Nat) (kept : List Eqn) (ko : Option Addr) (kc : Nat) (vo : Option Addr) (vc ca cb ck cv : Nat) (a b : Int)
    (h1 : Bx pb W ca #[.int .i64 fr] 3) (h2 : Bx pb W cb #[.int .i64 tt] 3) (h3 : Bx pb W ck #[.slice ko kept.length kc] 42) (h4 : Bx pb W cv #[.int .i64 1, .int .i64 n, .slice vo 0 vc] 24)
    (hk : KeptAt pb W ko kept) (hkz : kept.length <= 4096) (hks : ∀ t ∈ kept, t.1.2.2.size <= 100000 /\ t.2.1.2.2.size <= 100000) (hft : fr <= tt) (hlo : tt <= mk.next) (hN : (copied most kept (tv n) fr tt mk).2.next <= NBd) :
    Calls Tryz.prog 116 #[.pointer (some ⟨pb, 0, none⟩), .agg #[.int .i64 a, .int .i64 b], .pointer (some ⟨ca, 0, none⟩), .pointer (some ⟨cb, 0, none⟩), .pointer (some ⟨ck, 0, none⟩), .pointer (some ⟨cv, 0, none⟩)] W (MkQ X most pb W (copied most kept (tv n) fr tt mk)) := by
 obtain ⟨W0, hW0⟩ : ∃ W0, W0 = (W.alloc (.cells #[.int .i64 a, .int .i64 b] 27)).alloc (.cells #[.int .i64 0, .int .i64 0, .slice none 0 0] 24) := ⟨_, rfl⟩
 have hq0 : Quiet0 W W0 := by rw [hW0]; exact (Quiet0.alloc _ _).trans (Quiet0.alloc _ _)
 have hz0 : W0.heap.size = W.heap.size + 2 := by rw [hW0]; simp
 have hB8 : Bx pb W0 (W.heap.size + 1) #[.int .i64 0, .int .i64 0, .slice none 0 0] 24 := by
  refine Bx.new hmk0 hq0 (by omega) ?_
  rw [hW0]
  have := heap_alloc_new (W.alloc (.cells #[.int .i64 a, .int .i64 b] 27)) (.cells #[.int .i64 0, .int .i64 0, .slice none 0 0] 24)
  simpa using this
 have hm0 := hmk0.more hq0 (fun i => i = W.heap.size + 1) (fun i hi => by subst hi; omega)
 have hpw := hmk0.lt
 have hl0 := Later.of_quiet hq0 hpw
 have HL0 := hid hl0
 have HM0 := hid hm0
 have HPW := hid hpw
 have HZ0 := hid hz0
 have H1 := hid (h1.later hl0)
 have H2 := hid (h2.later hl0)
 have H3 := hid (h3.later hl0)
 have H4 := hid (h4.later hl0)
 have H8 := hid hB8
 have HK := hid (hk.later hl0)
 have HKS := hid hks
 obtain ⟨by', hby⟩ : ∃ by', mk.next - fr = by' := ⟨_, rfl⟩
 have hnx : (copied most kept (tv n) fr tt mk).2.next = mk.next + (tt - fr) := by
  show (keptP most (shT fr tt (mk.next - fr)) kept { mk with next := mk.next + (tt - fr) }).2.next = _
  exact kept_next most _ kept _
 rw [hnx] at hN
 replace hN : mk.next + (tt - fr) <= 500000000 := hN
 obtain ⟨fin, hfin⟩ : ∃ fin, (keptP most (shT fr tt by') kept { mk with next := mk.next + (tt - fr) }).2 = fin := ⟨_, rfl⟩
 have hres : copied most kept (tv n) fr tt mk = (shT fr tt by' (tv n), fin) := by
  rw [<- hfin, <- hby]; rfl
 rw [hres]
 obtain ⟨d, hd⟩ : ∃ d, tt - fr = d := ⟨_, rfl⟩
 rw [hd] at hfin hN
 have hw1 : ((mk.next : Int) - fr) = (by' : Int) := by omega
 have hw2 : IntKind.i64.wrap (by' : Int) = (by' : Int) := IntWalk.i64_in _ (by omega)
 have hw3 : ((tt : Int) - fr) = (d : Int) := by omega
 have hw4 : IntKind.i64.wrap (d : Int) = (d : Int) := IntWalk.i64_in _ (by omega)
 have hw5 : IntKind.i64.wrap ((mk.next : Int) + d) = (mk.next : Int) + d := IntWalk.i64_in _ (by omega)
 have hbt : tt + by' <= 1000000000 := by omega
 have hN1 : mk.next <= 500000000 := by omega
 have hN2 : tt <= 500000000 := by omega
 have HFIN := hid hfin
 clear hmk0 hm0 hl0 hq0 h1 h2 h3 h4 hk hks hB8 hnx hres hfin
 unfold MkQ
 unfold tyv
 go_enter Tryz.func116, Tryz.ntmps116
 generalize hBB : W.heap.size = B at *
 obtain ⟨X1, hX1⟩ : ∃ X1, X1 = (fun i => X i ∨ i = B + 1) := ⟨_, rfl⟩
 rw [<- hX1] at HM0
 have HX1 : Hid (∀ i, X1 i = (X i ∨ i = B + 1)) := fun i => by rw [hX1]
 clear hX1
 go_upto_region 1 with fail
 rw [<- hW0]
 clear hW0
 obtain ⟨oo, oc, oxs, hmka⟩ := HM0.out
 obtain ⟨q0, q1, q2, q3⟩ := mk_cells hmka.box
 have u1 := cell_of_one H1.out.1
 have hqa := Quiet0.alloc W0 (.cells #[.int .i64 0] 3)
 have q1' := hqa.at q1
 have u1' := hqa.at u1
 clear hqa
 go_cut [9] (fun v9 wx => ByR W0 (B + 2) by' v9 wx)
 case first =>
  go_region_law (fail)
  all_goals
   go_wp2_with fail
   go_meet
   first
    | with_reducible exact byR_end HZ0.out
    | with_reducible exact (byR_end HZ0.out).drew
    | with_reducible exact (byR_end HZ0.out).drew.drew
 case rest =>
  rename World => w1
  obtain ⟨rfl, hb9, hq1⟩ := hcut
  have hl1 := Later.of_quiet hq1 HM0.out.lt
  have HM1 := hid (HM0.out.stay hq1)
  have H91 := hid (Bx.new HM0.out hq1 (b := B + 2) (by rw [HZ0.out]; exact Nat.le_refl _) hb9)
  have H11 := hid (H1.out.later hl1)
  have H21 := hid (H2.out.later hl1)
  have HL1 := hid (HL0.out.trans hl1)
  have HL01 := hid hl1
  clear q0 q1 q2 q3 u1 q1' u1' hb9 hq1 hl1
  obtain ⟨oo, oc, oxs, hmka⟩ := HM1.out
  obtain ⟨q0, q1, q2, q3⟩ := mk_cells hmka.box
  obtain ⟨f0, f1, f2, f3⟩ := mk_free hmka.box
  have u1 := cell_of_one H11.out.1
  have u2 := cell_of_one H21.out.1
  have HBM := hid (HM1.out.bump d)
  have HP1 := hid HM1.out.lt
  clear hmka
  go_upto_region 2 with fail
  go_cut [22] (fun _ wx => MkE X1 most pb wx { mk with next := mk.next + d } /\ Later pb w1 wx)
  case first =>
   go_region_law (fail)
   all_goals
    go_wp2_with fail
    go_meet
    first
     | with_reducible exact ⟨HBM.out.1.stay (Quiet0.drew _), HBM.out.2.quiet (Quiet0.drew _) HP1.out⟩
     | with_reducible exact HBM.out
  case rest =>
   rename World => w2
   obtain ⟨hm2, hl2⟩ := hcut
   have HM2 := hid hm2
   have hl02 := HL01.out.trans hl2
   have HLW2 := hid (HL0.out.trans hl02)
   have H1b := hid (H11.out.later hl2)
   have H2b := hid (H21.out.later hl2)
   have H9b := hid (H91.out.later hl2)
   have H3b := hid (H3.out.later hl02)
   have H4b := hid (H4.out.later hl02)
   have H8b := hid (H8.out.later hl02)
   have HKb := hid (HK.out.later hl02)
   have hp2 := hm2.lt
   have HP2 := hid hp2
   clear q0 q1 q2 q3 f0 f1 f2 f3 u1 u2 hm2 hl2 hl02 hp2 HM1 HM0 HBM HP1 H11 H21 H91 H1 H2 H3 H4 H8 HK HL0 HL1 HL01 hw1 hw2 hw3 hw4 hw5
   have k0 := cell_of_one H3b.out.1
   go_wp2_with fail
   clear k0
   go_loopw [32] (fun t wr => CpI X1 most pb w2 (shT fr tt by') kept fin t wr) (fun t _ => kept.length - (intOf t).toNat)
   case atStart => exact ⟨0, _, rfl, Nat.zero_le _, HFIN.out, HM2.out, Later.refl HP2.out⟩
   case round =>
    obtain ⟨i, mki, rfl, hi, hpk, hmi, hli⟩ := hrel
    have HPK := hid hpk
    have HMI := hid hmi
    have HLI := hid hli
    clear hpk hmi hli
    by_cases hlt : i < kept.length
    ·have hlt' : (i : Int) < kept.length := by omega
     obtain ⟨t, ht⟩ : ∃ t, kept[i]? = some t := ⟨_, List.getElem?_eq_getElem hlt⟩
     have hdr : kept.drop i = t :: kept.drop (i + 1) := by
      obtain ⟨h1, h2⟩ := List.getElem?_eq_some_iff.1 ht
      rw [List.drop_eq_getElem_cons h1, h2]
     have hkq : ∃ g off, ko = some ⟨g, off, none⟩ /\ QAt (TF (fun _ => False) pb wr) wr g off kept := by
      rcases HKb.out with e | ⟨g, off, e1, e2⟩
      ·rw [e] at hlt; simp at hlt
      ·exact ⟨g, off, e1, e2 wr HLI.out⟩
     obtain ⟨g, off, rfl, hqa⟩ := hkq
     obtain ⟨o1, l1, c1, o2, l2, c2, s1, s2, a0, a1, a2, a3, a4, a5, a6, a7⟩ := hqa i t ht
     have hts := HKS.out t (List.mem_of_getElem? ht)
     obtain ⟨mo, mc, mxs, hmka⟩ := HMI.out
     have hmc := (mk_cells hmka.box).2.2.2
     obtain ⟨W1, hW1⟩ : ∃ W1, W1 = wr.alloc (.cells (ec t o1 l1 c1 o2 l2 c2) 74) := ⟨_, rfl⟩
     have hqw : Quiet0 wr W1 := by rw [hW1]; exact Quiet0.alloc _ _
     have hbe := Bx.new HMI.out hqw (Nat.le_refl _) (by rw [hW1]; exact heap_alloc_new wr (.cells (ec t o1 l1 c1 o2 l2 c2) 74))
     have HBE := hid hbe
     have hmc1 := hqw.at hmc
     have HQW := hid hqw
     have HP3 := hid HMI.out.lt
     have HSA : Hid (∀ W, Later pb W1 W -> Slc W o1 l1 t.1.2.2) := fun W hl => (slc_later s1 ((Later.of_quiet HQW.out HP3.out).trans hl)).slc
     have HSB : Hid (∀ W, Later pb W1 W -> Slc W o2 l2 t.2.1.2.2) := fun W hl => (slc_later s2 ((Later.of_quiet HQW.out HP3.out).trans hl)).slc
     clear s1 s2 hqa hmka hqw hbe hmc
     cases hmb : mki.many
     ·have HPK2 : Hid ((keptP most (shT fr tt by') (kept.drop (i + 1)) (eqP most (shT fr tt by' t.1) (shT fr tt by' t.2.1) t.2.2.1 t.2.2.2 mki).2).2 = fin) := by
        show _ = _
        rw [<- HPK.out, hdr]
        show _ = (ifMany () _ mki).2
        unfold ifMany
        rw [if_neg (by rw [hmb]; decide)]; rfl
      rw [hmb] at hmc1
      obtain ⟨mn, hmn⟩ : ∃ mn, (eqP most (shT fr tt by' t.1) (shT fr tt by' t.2.1) t.2.2.1 t.2.2.2 mki).2 = mn := ⟨_, rfl⟩
      rw [hmn] at HPK2
      have HMN := hid hmn
      have hz1 := hts.1
      have hz2 := hts.2
      have HM3 := hid (HMI.out.stay HQW.out)
      clear ht hdr hmn hts hmb
      go_upto_region 7 with fail
      change Code.wp _ _ _ _ (wr.alloc (.cells (ec t o1 l1 c1 o2 l2 c2) 74))
      rw [<- hW1]
      clear hW1 a0 a1 a2 a3 a4 a5 a6 a7
      generalize hE : wr.heap.size = E at *
      go_upto_region 8 with fail
      have hpb := HM3.out.lt
      have HKP : Hid (∀ W, Later pb W1 W -> W.cell? ⟨E, 0, none⟩ = some (.int .i64 t.1.1) /\ W.cell? ⟨E, 1, none⟩ = some (.int .i64 t.1.2.1) /\ W.cell? ⟨E, 2, none⟩ = some (.slice o1 l1 c1) /\ W.cell? ⟨E, 3, none⟩ = some (.int .i64 t.2.1.1) /\ W.cell? ⟨E, 4, none⟩ = some (.int .i64 t.2.1.2.1) /\ W.cell? ⟨E, 5, none⟩ = some (.slice o2 l2 c2) /\ W.cell? ⟨E, 6, none⟩ = some (.int .i64 t.2.2.1) /\ W.cell? ⟨E, 7, none⟩ = some (.int .i64 t.2.2.2)) := fun W hl => by
       have k := (HBE.out.later hl).1
       refine ⟨?_, ?_, ?_, ?_, ?_, ?_, ?_, ?_⟩ <;> (rw [cell_of_row _ _ _ _ _ (0, 0) k]; rfl)
      have HLI1 := hid (HLI.out.quiet HQW.out HP2.out)
      have HSL : Hid (∀ W, Later pb W1 W -> Calls Tryz.prog 117 #[tyv t.1.1 t.1.2.1 o1 l1 c1, .pointer (some ⟨ca, 0, none⟩), .pointer (some ⟨cb, 0, none⟩), .pointer (some ⟨B + 2, 0, none⟩)] W (ShQ W (shT fr tt by' t.1) l1)) := fun W hl => by
       have hl2 := HLI1.out.trans hl
       exact sh_any t.1 fr tt by' W o1 l1 c1 ca cb (B + 2) (H1b.out.later hl2).1 (H2b.out.later hl2).1 (H9b.out.later hl2).1 (HSA.out W hl) hbt hz1
      have HSR : Hid (∀ W, Later pb W1 W -> Calls Tryz.prog 117 #[tyv t.2.1.1 t.2.1.2.1 o2 l2 c2, .pointer (some ⟨ca, 0, none⟩), .pointer (some ⟨cb, 0, none⟩), .pointer (some ⟨B + 2, 0, none⟩)] W (ShQ W (shT fr tt by' t.2.1) l2)) := fun W hl => by
       have hl2 := HLI1.out.trans hl
       exact sh_any t.2.1 fr tt by' W o2 l2 c2 ca cb (B + 2) (H1b.out.later hl2).1 (H2b.out.later hl2).1 (H9b.out.later hl2).1 (HSB.out W hl) hbt hz2
      obtain ⟨tl, htl⟩ : ∃ tl, shT fr tt by' t.1 = tl := ⟨_, rfl⟩
      obtain ⟨tr, htr⟩ : ∃ tr, shT fr tt by' t.2.1 = tr := ⟨_, rfl⟩
      have hzl : tl.2.2.size <= 100000 := by rw [<- htl]; show (t.1.2.2.change _).size <= _; rw [Fo.change_size]; exact hz1
      have hzr : tr.2.2.size <= 100000 := by rw [<- htr]; show (t.2.1.2.2.change _).size <= _; rw [Fo.change_size]; exact hz2
      rw [htl] at HSL HMN
      rw [htr] at HSR HMN
      have HEQ : Hid (∀ (W : World) (p1 : Option Addr) (d1 : Nat) (p2 : Option Addr) (d2 : Nat), MkE X1 most pb W mki -> SlcIn (TF X1 pb W) W p1 l1 tl.2.2 -> SlcIn (TF X1 pb W) W p2 l2 tr.2.2 -> Calls Tryz.prog 66 #[.pointer (some ⟨pb, 0, none⟩), tyv tl.1 tl.2.1 p1 l1 d1, tyv tr.1 tr.2.1 p2 l2 d2, .agg #[.int .i64 t.2.2.1, .int .i64 t.2.2.2]] W (MkU X1 most pb W mn)) := fun W p1 d1 p2 d2 hmw sw1 sw2 => by
       have k := equate_any hmw hm tl tr t.2.2.1 t.2.2.2 (c1 := d1) (c2 := d2) sw1 sw2 hzl hzr
       rw [HMN.out] at k
       exact k
      obtain ⟨e0, e1, e2, e3, e4, e5, e6, e7⟩ := HKP.out W1 (Later.refl hpb)
      have hmk := HM3.out
      have hlc := Later.refl hpb
      clear htl htr
      unfold tyv at HSL HSR HEQ
      go_region_held3 (fun W => W.cell? ⟨E, 0, none⟩ = some (.int .i64 t.1.1) /\ W.cell? ⟨E, 1, none⟩ = some (.int .i64 t.1.2.1) /\ W.cell? ⟨E, 2, none⟩ = some (.slice o1 l1 c1) /\ W.cell? ⟨E, 3, none⟩ = some (.int .i64 t.2.1.1) /\ W.cell? ⟨E, 4, none⟩ = some (.int .i64 t.2.1.2.1) /\ W.cell? ⟨E, 5, none⟩ = some (.slice o2 l2 c2) /\ W.cell? ⟨E, 6, none⟩ = some (.int .i64 t.2.2.1) /\ W.cell? ⟨E, 7, none⟩ = some (.int .i64 t.2.2.2))
       (((refine HKP.out _ ?_); (repeat with_reducible first | exact hlc | exact Later.refl hpb | refine jm hpb ?_ | refine jo hpb ?_)))
       (first
        | (go_at_call 117; (with_reducible refine Calls.mono (HSR.out _ ?hq) ?_); (case hq => (repeat with_reducible first | exact hlc | exact Later.refl hpb | refine jm hpb ?_ | refine jo hpb ?_)); rintro e wx ⟨p2, d2, rfl, hs2, hqx⟩; (have hgd := hs1; (refine with_slc (pb := pb) (X := X1) (most := most) (k := mki) (o := p1) (len := l1) (f := tl.2.2) ?hm4 hqx ?hs4 ?_; (case hm4 => (repeat with_reducible first | exact hmk | refine ja ?_ | refine jb ?_)); (case hs4 => (repeat (first | with_reducible exact hs1 | ((with_reducible refine slc_st (pb := pb) (X := X1) (most := most) (k := mki) ?hmS (Quiet0.alloc _ _) ?_); (case hmS => (repeat with_reducible first | exact hmk | refine ja ?_ | refine jb ?_))) | ((with_reducible refine slc_st (pb := pb) (X := X1) (most := most) (k := mki) ?hmS (Quiet0.drew _) ?_); (case hmS => (repeat with_reducible first | exact hmk | refine ja ?_ | refine jb ?_))) | fail))); intro hs1); (refine with_new (pb := pb) (X := X1) (most := most) (k := mki) ?hm5 hqx hs2 ?_; (case hm5 => (repeat with_reducible first | exact hmk | refine ja ?_ | refine jb ?_)); intro hs2)); (refine with_ml (pb := pb) (X := X1) (most := most) (k := mki) (w0 := W1) ?hl2 ?hm2 hqx ?_); (case hl2 => (repeat with_reducible first | exact hlc | exact Later.refl hpb | refine jm hpb ?_ | refine jo hpb ?_)); (case hm2 => (repeat with_reducible first | exact hmk | refine ja ?_ | refine jb ?_)); intro hlc hmk)
        | (go_at_call 117; (with_reducible refine Calls.mono (HSL.out _ ?hq) ?_); (case hq => (repeat with_reducible first | exact hlc | exact Later.refl hpb | refine jm hpb ?_ | refine jo hpb ?_)); rintro e wx ⟨p1, d1, rfl, hs1, hqx⟩; (refine with_new (pb := pb) (X := X1) (most := most) (k := mki) ?hm5 hqx hs1 ?_; (case hm5 => (repeat with_reducible first | exact hmk | refine ja ?_ | refine jb ?_)); intro hs1); (refine with_ml (pb := pb) (X := X1) (most := most) (k := mki) (w0 := W1) ?hl2 ?hm2 hqx ?_); (case hl2 => (repeat with_reducible first | exact hlc | exact Later.refl hpb | refine jm hpb ?_ | refine jo hpb ?_)); (case hm2 => (repeat with_reducible first | exact hmk | refine ja ?_ | refine jb ?_)); intro hlc hmk)
        | ((go_at_call 66; (with_reducible refine Calls.mono (HEQ.out _ _ _ _ _ ?hm ?hs1 ?hs2) ?_)); (case hm => (repeat with_reducible first | exact hmk | refine ja ?_ | refine jb ?_)); (case hs1 => (repeat (first | with_reducible exact hs1 | ((with_reducible refine slc_st (pb := pb) (X := X1) (most := most) (k := mki) ?hmS (Quiet0.alloc _ _) ?_); (case hmS => (repeat with_reducible first | exact hmk | refine ja ?_ | refine jb ?_))) | ((with_reducible refine slc_st (pb := pb) (X := X1) (most := most) (k := mki) ?hmS (Quiet0.drew _) ?_); (case hmS => (repeat with_reducible first | exact hmk | refine ja ?_ | refine jb ?_))) | fail))); (case hs2 => (repeat (first | with_reducible exact hs2 | ((with_reducible refine slc_st (pb := pb) (X := X1) (most := most) (k := mki) ?hmS (Quiet0.alloc _ _) ?_); (case hmS => (repeat with_reducible first | exact hmk | refine ja ?_ | refine jb ?_))) | ((with_reducible refine slc_st (pb := pb) (X := X1) (most := most) (k := mki) ?hmS (Quiet0.drew _) ?_); (case hmS => (repeat with_reducible first | exact hmk | refine ja ?_ | refine jb ?_))) | fail))); rintro e wx ⟨rfl, hmk, hlx⟩; (refine with_lt (pb := pb) (w0 := W1) ?hl2 hlx ?_); (case hl2 => (repeat with_reducible first | exact hlc | exact Later.refl hpb | refine jm hpb ?_ | refine jo hpb ?_)); intro hlc)
        | fail)
      all_goals
       go_wp2_with fail
       go_roundw
       case rel =>
        exact ⟨i + 1, mn, by go_num, by omega, HPK2.out, hmk, HLI1.out.trans hlc⟩
       case measure => simp [intOf]; omega
     ·have HFM : Hid (mki = fin) := by
        show _ = _
        rw [<- HPK.out, hdr]
        show _ = (ifMany () _ mki).2
        unfold ifMany
        rw [if_pos hmb]
      rw [hmb] at hmc1
      clear ht hdr hmb hts
      go_upto_region 7 with fail
      change Code.wp _ _ _ _ (wr.alloc (.cells (ec t o1 l1 c1 o2 l2 c2) 74))
      rw [<- hW1]
      clear hW1 a0 a1 a2 a3 a4 a5 a6 a7
      have hm7 := HFM.out ▸ HMI.out.stay HQW.out
      have hl7 := HLI.out.quiet HQW.out HP2.out
      obtain ⟨n', hn'⟩ := shT_tv fr tt by' n
      have HT : Hid (Calls Tryz.prog 117 #[tyv 1 n vo 0 vc, .pointer (some ⟨ca, 0, none⟩), .pointer (some ⟨cb, 0, none⟩), .pointer (some ⟨B + 2, 0, none⟩)] W1 (ShV W1 n')) := by
       have k := sh_any (tv n) fr tt by' W1 vo 0 vc ca cb (B + 2) (H1b.out.later hl7).1 (H2b.out.later hl7).1 (H9b.out.later hl7).1 (Slc.nil _ _) hbt (by show Fo.nil.size <= 100000; decide)
       rw [hn'] at k
       exact k.mono (fun e w' hh => by obtain ⟨o', cap', e1, _, e3⟩ := hh; exact ⟨o', cap', e1, e3⟩)
      obtain ⟨v0, v1, v2, _, _, _⟩ := box_cells3 (H4b.out.later hl7).1
      have HV8 := hid (H8b.out.later hl7)
      have HMZ := hid hm7
      have HLZ := hid hl7
      have HN' := hid hn'
      unfold tyv at HT
      clear hn'
      go_wp2_with fail
      refine HT.out.mono ?_; rintro e wy ⟨o2, cap2, rfl, hqy⟩
      have HQY := hid hqy
      have HM9 := hid (HMZ.out.stay hqy)
      have hb8 := (HV8.out.later (Later.of_quiet hqy HMZ.out.lt)).1
      have HB8 := hid hb8
      obtain ⟨d0, d1, d2, y0, y1, y2⟩ := box_cells3 hb8
      clear hqy hb8 v0 v1 v2
      go_wp2_with fail
      clear d0 d1 d2 y0 y1 y2
      have hf := put3_fr wy (B + 1) (.int .i64 1) (.int .i64 n') (.slice o2 0 cap2)
      obtain ⟨f0, f1, f2⟩ := put3_cells (a := .int .i64 1) (b := .int .i64 n') (c := .slice o2 0 cap2) HB8.out
      change bodyPost _ _ _ _ _ (put3 wy (B + 1) (.int .i64 1) (.int .i64 n') (.slice o2 0 cap2))
      generalize put3 wy (B + 1) (.int .i64 1) (.int .i64 n') (.slice o2 0 cap2) = wf at *
      refine bodyPost_ret (by simp [results, Tryz.results116, go_sem, f0, f1, f2]; rfl) rfl ?_
      have hp : pb < W.heap.size := by rw [hBB]; exact HPW.out
      exact ⟨n', o2, cap2, HN'.out, rfl, (HM9.out.put (hf.mono (fun i _ e => by rw [HX1.out]; exact Or.inr e))).less (fun i hi => by rw [HX1.out]; exact Or.inl hi), ((HLW2.out.trans HLZ.out).quiet HQY.out hp).put hf hp (fun i hi => by omega)⟩
    ·have hlt' : ¬ (i : Int) < kept.length := by omega
     have HFM : Hid (mki = fin) := by
      show _ = _
      rw [<- HPK.out, List.drop_eq_nil_of_le (by omega)]; rfl
     have hm7 := HFM.out ▸ HMI.out
     have hl7 := HLI.out
     obtain ⟨n', hn'⟩ := shT_tv fr tt by' n
     have HT : Hid (Calls Tryz.prog 117 #[tyv 1 n vo 0 vc, .pointer (some ⟨ca, 0, none⟩), .pointer (some ⟨cb, 0, none⟩), .pointer (some ⟨B + 2, 0, none⟩)] wr (ShV wr n')) := by
      have k := sh_any (tv n) fr tt by' wr vo 0 vc ca cb (B + 2) (H1b.out.later hl7).1 (H2b.out.later hl7).1 (H9b.out.later hl7).1 (Slc.nil _ _) hbt (by show Fo.nil.size <= 100000; decide)
      rw [hn'] at k
      exact k.mono (fun e w' hh => by obtain ⟨o', cap', e1, _, e3⟩ := hh; exact ⟨o', cap', e1, e3⟩)
     obtain ⟨v0, v1, v2, _, _, _⟩ := box_cells3 (H4b.out.later hl7).1
     have HV8 := hid (H8b.out.later hl7)
     have HMZ := hid hm7
     have HLZ := hid hl7
     have HN' := hid hn'
     unfold tyv at HT
     clear hn'
     go_wp2_with fail
     refine HT.out.mono ?_; rintro e wy ⟨o2, cap2, rfl, hqy⟩
     have HQY := hid hqy
     have HM9 := hid (HMZ.out.stay hqy)
     have hb8 := (HV8.out.later (Later.of_quiet hqy HMZ.out.lt)).1
     have HB8 := hid hb8
     obtain ⟨d0, d1, d2, y0, y1, y2⟩ := box_cells3 hb8
     clear hqy hb8 v0 v1 v2
     go_wp2_with fail
     clear d0 d1 d2 y0 y1 y2
     have hf := put3_fr wy (B + 1) (.int .i64 1) (.int .i64 n') (.slice o2 0 cap2)
     obtain ⟨f0, f1, f2⟩ := put3_cells (a := .int .i64 1) (b := .int .i64 n') (c := .slice o2 0 cap2) HB8.out
     change bodyPost _ _ _ _ _ (put3 wy (B + 1) (.int .i64 1) (.int .i64 n') (.slice o2 0 cap2))
     generalize put3 wy (B + 1) (.int .i64 1) (.int .i64 n') (.slice o2 0 cap2) = wf at *
     refine bodyPost_ret (by simp [results, Tryz.results116, go_sem, f0, f1, f2]; rfl) rfl ?_
     have hp : pb < W.heap.size := by rw [hBB]; exact HPW.out
     exact ⟨n', o2, cap2, HN'.out, rfl, (HM9.out.put (hf.mono (fun i _ e => by rw [HX1.out]; exact Or.inr e))).less (fun i hi => by rw [HX1.out]; exact Or.inl hi), ((HLW2.out.trans HLZ.out).quiet HQY.out hp).put hf hp (fun i hi => by omega)⟩
theorem eg_copied : ∀ args w, (callFunc 116 args).run Tryz.prog w = .ok (.enter 116 args) w := enters_of Tryz.func116 (by kernel_rfl) rfl
theorem copied_any {X : Nat -> Prop} {most : Int} {pb lo : Nat} {W : World} {mk : Mk} (hm : MkE X most pb W mk) (hmost : most <= 4096) (n fr tt : Nat) (kept : List Eqn) (ko : Option Addr) (kc : Nat) (vo : Option Addr) (vc : Nat)
    (hk : KeptAt pb W ko kept) (hkz : kept.length <= 4096) (hks : ∀ t ∈ kept, t.1.2.2.size <= 100000 /\ t.2.1.2.2.size <= 100000) (hft : fr <= tt) (hlo : tt <= lo) :
    Calls Tryz.prog 99 #[.slice ko kept.length kc, tyv 1 n vo 0 vc, .int .i64 fr, .int .i64 tt] W fun x w' => ∃ bs ls, x = .returned (.func bs #[] ls) /\ MeanT most pb lo w' (.func bs #[] ls) (copied most kept (tv n) fr tt) /\ Quiet0 W w' := by
 obtain ⟨W1, hW1⟩ : ∃ W1, W1 = (((W.alloc (.cells #[.slice ko kept.length kc] 42)).alloc (.cells #[.int .i64 1, .int .i64 n, .slice vo 0 vc] 24)).alloc (.cells #[.int .i64 fr] 3)).alloc (.cells #[.int .i64 tt] 3) := ⟨_, rfl⟩
 have hq : Quiet0 W W1 := by rw [hW1]; exact (((Quiet0.alloc _ _).trans (Quiet0.alloc _ _)).trans (Quiet0.alloc _ _)).trans (Quiet0.alloc _ _)
 have b0 : W1.heap[W.heap.size]? = some (.cells #[.slice ko kept.length kc] 42 (0, 0)) := by rw [hW1]; exact blk_after (((Quiet0.alloc _ _).trans (Quiet0.alloc _ _)).trans (Quiet0.alloc _ _)) (heap_alloc_new W _)
 have b1 : W1.heap[W.heap.size + 1]? = some (.cells #[.int .i64 1, .int .i64 n, .slice vo 0 vc] 24 (0, 0)) := by
  rw [hW1]; refine blk_after ((Quiet0.alloc _ _).trans (Quiet0.alloc _ _)) ?_
  have := heap_alloc_new (W.alloc (.cells #[.slice ko kept.length kc] 42)) (.cells #[.int .i64 1, .int .i64 n, .slice vo 0 vc] 24)
  simpa using this
 have b2 : W1.heap[W.heap.size + 1 + 1]? = some (.cells #[.int .i64 fr] 3 (0, 0)) := by
  rw [hW1]; refine blk_after (Quiet0.alloc _ _) ?_
  have := heap_alloc_new ((W.alloc (.cells #[.slice ko kept.length kc] 42)).alloc (.cells #[.int .i64 1, .int .i64 n, .slice vo 0 vc] 24)) (.cells #[.int .i64 fr] 3)
  simpa using this
 have b3 : W1.heap[W.heap.size + 1 + 1 + 1]? = some (.cells #[.int .i64 tt] 3 (0, 0)) := by
  rw [hW1]
  have := heap_alloc_new (((W.alloc (.cells #[.slice ko kept.length kc] 42)).alloc (.cells #[.int .i64 1, .int .i64 n, .slice vo 0 vc] 24)).alloc (.cells #[.int .i64 fr] 3)) (.cells #[.int .i64 tt] 3)
  simpa using this
 have x0 := Bx.new hm hq (Nat.le_refl _) b0
 have x1 := Bx.new hm hq (by omega) b1
 have x2 := Bx.new hm hq (by omega) b2
 have x3 := Bx.new hm hq (by omega) b3
 have hk1 := hk.later (Later.of_quiet hq hm.lt)
 have HF : Hid (MeanT most pb lo W1 (.func (.func 116) #[] #[.pointer (some ⟨W.heap.size + 1 + 1, 0, none⟩), .pointer (some ⟨W.heap.size + 1 + 1 + 1, 0, none⟩), .pointer (some ⟨W.heap.size, 0, none⟩), .pointer (some ⟨W.heap.size + 1, 0, none⟩)]) (copied most kept (tv n) fr tt)) :=
  ⟨_, _, rfl, eg_copied, fun W' X' mk' a b hl hm' hlo' hN => copied1_any hm' hmost n fr tt kept ko kc vo vc _ _ _ _ a b (x2.later hl) (x3.later hl) (x0.later hl) (x1.later hl) (hk1.later hl) hkz hks hft (by omega) hN⟩
 have HQ := hid hq
 clear hm hk hq b0 b1 b2 b3 x0 x1 x2 x3 hk1
 unfold tyv
 go_enter Tryz.func99, Tryz.ntmps99
 go_upto_region 1 with fail
 rw [<- hW1]
 clear hW1
 go_wp2_with fail
 go_ret
 exact ⟨_, _, rfl, HF.out, HQ.out⟩
end Em
end
end Go.Proofs.YtcninopmelmajaaGreatDoor
