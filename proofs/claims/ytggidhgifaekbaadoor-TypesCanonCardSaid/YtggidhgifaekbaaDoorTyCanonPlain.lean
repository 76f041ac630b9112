/-
  The plain law behind TypesCanon: Canon of Canon is the same; variables that are others, one for one, have the same Canon. No program in sight.
-/
import Derived.Test.YtggidhgifaekbaaDoorTyShift
namespace Go.Proofs.YtggidhgifaekbaaDoor

/-- renaming the variables one for one renames the row of variables -/
theorem inB_iff (l : List Int) (v : Int) : inB l v = true ↔ v ∈ l := by unfold inB; simp
theorem newN_cases (p : Int → Int) (k n : Int) : (k = 1 → newN p k n = p n) ∧ (k ≠ 1 → newN p k n = n) := by
  constructor
  · intro h; subst h; rfl
  · intro h
    have : (k == 1) = false := by simp [h]
    unfold newN; rw [this]; rfl
/-- all variables of a row of types are such -/
def varsAll (G : Int → Prop) : Fo → Prop
  | .nil => True
  | .cons k n ps r => (k = 1 → G n) ∧ varsAll G ps ∧ varsAll G r
theorem varsAll_mono {G H : Int → Prop} (h : ∀ n, G n → H n) : ∀ f : Fo, varsAll G f → varsAll H f
  | .nil, _ => trivial
  | .cons _ _ ps r, hf => ⟨fun e => h _ (hf.1 e), varsAll_mono h ps hf.2.1, varsAll_mono h r hf.2.2⟩
theorem vars_map (p : Int → Int) (G : Int → Prop) (hi : ∀ a b, G a → G b → p a = p b → a = b) : ∀ (f : Fo) (l : List Int), (∀ v ∈ l, G v) → varsAll G f →
    Fo.vars (l.map p) (f.change p) = (Fo.vars l f).map p ∧ (∀ v ∈ Fo.vars l f, G v)
  | .nil, l, hl, _ => ⟨rfl, hl⟩
  | .cons k n ps r, l, hl, hf => by
    have hstep : (varStep (l.map p) k (if k == 1 then p n else n) (ps.change p)) = (varStep l k n ps).map p ∧ (∀ v ∈ varStep l k n ps, G v) := by
      unfold varStep
      cases hk : (k == 1)
      · exact ⟨by simp, by simpa using hl⟩
      · have hk' : k = 1 := by simpa using hk
        have hgn := hf.1 hk'
        have hb : inB (l.map p) (p n) = inB l n := by
          rw [Bool.eq_iff_iff, inB_iff, inB_iff]
          constructor
          · intro h
            obtain ⟨a, ha, he⟩ := List.mem_map.1 h
            rw [← hi a n (hl a ha) hgn he]; exact ha
          · intro h; exact List.mem_map.2 ⟨n, h, rfl⟩
        simp only [if_true, hb, Bool.true_and]
        cases inB l n
        · refine ⟨by simp, ?_⟩
          intro v hv
          simp at hv
          rcases hv with h | h
          · exact hl v h
          · rw [h]; exact hgn
        · exact ⟨by simp, by simpa using hl⟩
    have h1 := vars_map p G hi ps (varStep l k n ps) hstep.2 hf.2.1
    have h2 := vars_map p G hi r (Fo.vars (varStep l k n ps) ps) h1.2 hf.2.2
    show Fo.vars (Fo.vars (varStep (l.map p) k (if k == 1 then p n else n) (ps.change p)) (ps.change p)) (r.change p) = (Fo.vars (Fo.vars (varStep l k n ps) ps) r).map p ∧ ∀ v ∈ Fo.vars (Fo.vars (varStep l k n ps) ps) r, G v
    rw [hstep.1, h1.1, h2.1]
    exact ⟨rfl, h2.2⟩
theorem vars_sub : ∀ (f : Fo) (l : List Int), (∀ v ∈ l, v ∈ Fo.vars l f) ∧ varsAll (fun v => v ∈ Fo.vars l f) f
  | .nil, l => ⟨fun v h => h, trivial⟩
  | .cons k n ps r, l => by
    rw [vars_cons]
    have h1 := vars_sub ps (varStep l k n ps)
    have h2 := vars_sub r (Fo.vars (varStep l k n ps) ps)
    have h0 : ∀ v ∈ l, v ∈ varStep l k n ps := by
      intro v hv; unfold varStep; split
      · exact List.mem_append_left _ hv
      · exact hv
    refine ⟨fun v hv => h2.1 v (h1.1 v (h0 v hv)), ?_, varsAll_mono (fun v hv => h2.1 v hv) ps h1.2, h2.2⟩
    intro hk
    subst hk
    apply h2.1; apply h1.1
    unfold varStep
    cases hb : inB l n
    · simp
    · simpa using (inB_iff l n).1 hb
theorem vars_nodup : ∀ (f : Fo) (l : List Int), l.Nodup → (Fo.vars l f).Nodup
  | .nil, l, h => h
  | .cons k n ps r, l, h => by
    rw [vars_cons]
    refine vars_nodup r _ (vars_nodup ps _ ?_)
    unfold varStep
    split
    · rename_i hc
      have hn : n ∉ l := by
        intro hm
        have := (inB_iff l n).2 hm
        simp [this] at hc
      rw [List.nodup_append]
      exact ⟨h, by simp, by intro a ha b hb; simp at hb; subst hb; intro e; subst e; exact hn ha⟩
    · exact h
/-- the place of what stands at i is i -/
theorem place_get (l : List Int) (hd : l.Nodup) : ∀ (m i : Nat) (v : Int), l[i]? = some v → i < m → m ≤ l.length → placeN l m v = i
  | 0, i, v, _, h, _ => by omega
  | m + 1, i, v, hv, h, hm => by
    show (if l[m]? = some v then (m : Int) else placeN l m v) = i
    by_cases he : i = m
    · subst he; rw [if_pos hv]
    · rw [if_neg ?_]
      · exact place_get l hd m i v hv (by omega) (by omega)
      · intro h2
        have h3 := (List.getElem?_inj (by have := (List.getElem?_eq_some_iff.1 hv).1; exact this) hd).1 (hv.trans h2.symm)
        omega
theorem place_inj (l : List Int) (hd : l.Nodup) (a b : Int) (ha : a ∈ l) (hb : b ∈ l) (h : placeN l l.length a = placeN l l.length b) : a = b := by
  obtain ⟨i, hi⟩ := List.getElem?_of_mem ha
  obtain ⟨j, hj⟩ := List.getElem?_of_mem hb
  have hi' := (List.getElem?_eq_some_iff.1 hi).1
  have hj' := (List.getElem?_eq_some_iff.1 hj).1
  rw [place_get l hd _ i a hi hi' (Nat.le_refl _), place_get l hd _ j b hj hj' (Nat.le_refl _)] at h
  have : i = j := by omega
  subst this
  rw [hi] at hj
  simpa using hj
theorem change_change (p q r : Int → Int) (G : Int → Prop) (h : ∀ v, G v → q (p v) = r v) : ∀ f : Fo, varsAll G f → (f.change p).change q = f.change r
  | .nil, _ => rfl
  | .cons k n ps rr, hf => by
    have h1 := change_change p q r G h ps hf.2.1
    have h2 := change_change p q r G h rr hf.2.2
    show Fo.cons k (if k == 1 then q (if k == 1 then p n else n) else (if k == 1 then p n else n)) ((ps.change p).change q) ((rr.change p).change q) = Fo.cons k (if k == 1 then r n else n) (ps.change r) (rr.change r)
    rw [h1, h2]
    cases hk : (k == 1)
    · rfl
    · simp only [if_true]; rw [h n (hf.1 (by simpa using hk))]
/-- Canon of what was renamed one for one -/
theorem canon_change (f : Fo) (p : Int → Int) (hi : ∀ a b, a ∈ Fo.vars [] f → b ∈ Fo.vars [] f → p a = p b → a = b) :
    (f.change p).change (placeN (Fo.vars [] (f.change p)) (Fo.vars [] (f.change p)).length) = f.change (placeN (Fo.vars [] f) (Fo.vars [] f).length) := by
  have hv := (vars_map p (fun v => v ∈ Fo.vars [] f) hi f [] (fun v h => by cases h) (vars_sub f []).2).1
  rw [List.map_nil] at hv
  rw [hv]
  have hnd := vars_nodup f [] List.nodup_nil
  have hnd2 : ((Fo.vars [] f).map p).Nodup := by
    rw [← hv]; exact vars_nodup _ [] List.nodup_nil
  refine change_change p _ _ (fun v => v ∈ Fo.vars [] f) ?_ f (vars_sub f []).2
  intro v hvm
  obtain ⟨i, hi'⟩ := List.getElem?_of_mem hvm
  have hl := (List.getElem?_eq_some_iff.1 hi').1
  rw [place_get (Fo.vars [] f) hnd _ i v hi' hl (Nat.le_refl _)]
  rw [place_get ((Fo.vars [] f).map p) hnd2 _ i (p v) (by rw [List.getElem?_map, hi']; rfl) (by simpa using hl) (Nat.le_refl _)]
end Go.Proofs.YtggidhgifaekbaaDoor
