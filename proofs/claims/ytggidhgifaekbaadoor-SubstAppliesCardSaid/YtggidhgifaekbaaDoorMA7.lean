/-
  Texts laid together (SuRefSolves, SuPlain, SuRight, TyRefVars2, SuRefRight, SuInts): what each one proves, and its conditions, stands at its head.
-/
import Derived.Test.YtggidhgifaekbaaDoorMA1
import Derived.Test.YtggidhgifaekbaaDoorMA2
import Derived.Test.YtggidhgifaekbaaDoorMA3
import Derived.Test.YtggidhgifaekbaaDoorMA4
import Derived.Test.YtggidhgifaekbaaDoorMA5
import Derived.Test.YtggidhgifaekbaaDoorMA6
/-
  Does a substitution solve equations: the reference. Conditions: the binds and the equations lie in memory as told; they are small.
-/
namespace Go.Proofs.YtggidhgifaekbaaDoor
open Go.RowKit Go.Maps

/-- the reference's Apply on a type that lies in memory -/
theorem refApply_of (w0 : World) (a : Option Addr) (c : Nat) (l : List Bd) (hb : BindsAt w0 a l) (hll : l.length ≤ 1000000) (k n : Int) (ps : Fo) (hz : ps.size ≤ 1000000) (k' n' : Int) (ps' : Fo) (e1 : sK l k n = k') (e2 : sN l k n = n') (e3 : sP l k n ps = ps')
    (W : World) (hq : Quiet0 w0 W) (o : Option Addr) (len cap : Nat) (hs : Slc W o len ps) :
    Calls Tryd.prog 59 #[.slice a l.length c, .agg #[.int .i64 k, .int .i64 n, .slice o len cap]] W fun e w' => ∃ o' len' cap', e = .returned (.agg #[.int .i64 k', .int .i64 n', .slice o' len' cap']) ∧ Slc w' o' len' ps' ∧ Quiet0 W w' := by
  subst e1 e2 e3
  refine (refApply_any w0 a c l hb hll k n ps W o len cap hq hs hz).mono ?_
  rintro e w' ⟨o', len', cap', rfl, h1, h2⟩
  exact ⟨o', len', cap', rfl, h1.slc, h2⟩
set_option maxHeartbeats 4000000 in
set_option maxRecDepth 100000 in
theorem refSolves_any (l : List Bd) (es : List Eqn) (w : World) (o : Option Addr) (cap : Nat) (oe : Option Addr) (cape : Nat) (hs : BindsAt w o l) (he : EqsAt w oe es) (hz : l.length ≤ 100000) (hze : es.length ≤ 100000)
    (hes : ∀ t ∈ es, t.1.2.2.size ≤ 1000000 ∧ t.2.1.2.2.size ≤ 1000000) :
    Calls Tryd.prog 42 #[.slice o l.length cap, .slice oe es.length cape] w fun e w' => e = .returned (.bool (es.all (eqP l))) ∧ Quiet0 w w' := by
  have HS := Lib.hid hs
  have HE := Lib.hid he
  have HES := Lib.hid hes
  obtain ⟨r, hr⟩ : ∃ r, r = es.all (eqP l) := ⟨_, rfl⟩
  have HR := Lib.hid hr
  rw [← hr]
  clear hs he hes hr
  go_enter Tryd.func42, Tryd.ntmps42
  go_wp2_with fail
  go_loopw [5] (fun t wr => ∃ i : Nat, t = .int .i64 i ∧ i ≤ es.length ∧ r = (es.drop i).all (eqP l) ∧ Quiet0 w wr) (fun t _ => es.length - (intOf t).toNat)
  case atStart => exact ⟨0, rfl, Nat.zero_le _, HR.out, Quiet0.refl _⟩
  case round =>
    obtain ⟨i, rfl, hi, hrr, hq⟩ := hrel
    have HRR := Lib.hid hrr
    have HQ := Lib.hid hq
    clear hrr hq
    by_cases hlt : i < es.length
    · have hlt' : (i : Int) < es.length := by omega
      obtain ⟨t, ht⟩ : ∃ t, es[i]? = some t := ⟨_, List.getElem?_eq_getElem hlt⟩
      obtain ⟨z1, z2⟩ := HES.out t (List.mem_of_getElem? ht)
      obtain ⟨b, off, o1, l1, c1, o2, l2, c2, rfl, a0, a1, a2, a3, a4, a5, a6, a7, s1, s2⟩ := HE.out.stay HQ.out i t ht
      have HN : Hid (r = (eqP l t && (es.drop (i + 1)).all (eqP l))) := by
        show _ = _
        rw [HRR.out, drop_some ht]; rfl
      have HA1 := Lib.hid (fun (W' : World) (h : Quiet0 wr W') => refApply_of w o cap l HS.out (by omega) t.1.1 t.1.2.1 t.1.2.2 z1 _ _ _ rfl rfl rfl W' (HQ.out.trans h) o1 l1 c1 (s1.stay h))
      have HA2 := Lib.hid (fun (W' : World) (h : Quiet0 wr W') => refApply_of w o cap l HS.out (by omega) t.2.1.1 t.2.1.2.1 t.2.1.2.2 z2 _ _ _ rfl rfl rfl W' (HQ.out.trans h) o2 l2 c2 (s2.stay h))
      unfold eqP at HN
      generalize sK l t.1.1 t.1.2.1 = k1 at *
      generalize sN l t.1.1 t.1.2.1 = n1' at *
      generalize sP l t.1.1 t.1.2.1 t.1.2.2 = p1 at *
      generalize sK l t.2.1.1 t.2.1.2.1 = k2 at *
      generalize sN l t.2.1.1 t.2.1.2.1 = n2' at *
      generalize sP l t.2.1.1 t.2.1.2.1 t.2.1.2.2 = p2 at *
      have HSM := Lib.hid (fun (W' : World) oa la ca ob lb cb (ha : Slc W' oa la p1) (hb : Slc W' ob lb p2) => refSame_any k1 n1' p1 k2 n2' p2 W' oa la ca ob lb cb ha hb)
      unfold tyv at HSM
      generalize sameT k1 n1' p1 k2 n2' p2 = sm at *
      generalize t.1.1 = ka at *
      generalize t.1.2.1 = na at *
      generalize t.2.1.1 = kb at *
      generalize t.2.1.2.1 = nb at *
      have HBC : Hid (∀ w', Quiet0 wr w' → (w'.cell? ⟨b, off + i * 8, none⟩ = some (.int .i64 ka) ∧ w'.cell? ⟨b, off + i * 8 + 1, none⟩ = some (.int .i64 na) ∧ w'.cell? ⟨b, off + i * 8 + 2, none⟩ = some (.slice o1 l1 c1)) ∧ w'.cell? ⟨b, off + i * 8 + 3, none⟩ = some (.int .i64 kb) ∧ w'.cell? ⟨b, off + i * 8 + 3 + 1, none⟩ = some (.int .i64 nb) ∧ w'.cell? ⟨b, off + i * 8 + 3 + 2, none⟩ = some (.slice o2 l2 c2)) := fun W h => ⟨⟨h.at a0, h.at a1, h.at a2⟩, h.at a3, h.at a4, h.at a5⟩
      clear ht z1 z2 a0 a1 a2 a3 a4 a5 a6 a7 s1 s2
      have hqc := Quiet0.refl wr
      obtain ⟨⟨a1, a2, a3⟩, a4, a5, a6⟩ := HBC.out wr hqc
      go_wp2_with fail
      go_region_held3 (fun w' => (w'.cell? ⟨b, off + i * 8, none⟩ = some (.int .i64 ka) ∧ w'.cell? ⟨b, off + i * 8 + 1, none⟩ = some (.int .i64 na) ∧ w'.cell? ⟨b, off + i * 8 + 2, none⟩ = some (.slice o1 l1 c1)) ∧ w'.cell? ⟨b, off + i * 8 + 3, none⟩ = some (.int .i64 kb) ∧ w'.cell? ⟨b, off + i * 8 + 3 + 1, none⟩ = some (.int .i64 nb) ∧ w'.cell? ⟨b, off + i * 8 + 3 + 2, none⟩ = some (.slice o2 l2 c2))
        (((refine HBC.out _ ?_); (repeat (first | with_reducible exact hqc | with_reducible exact Quiet0.refl _ | with_reducible refine Quiet0.trans ?_ (Quiet0.alloc _ _) | with_reducible refine Quiet0.trans ?_ (Quiet0.drew _) | fail))))
        (first
          | (go_at_call 59; (with_reducible refine Calls.mono (HA1.out _ ?hq) ?_); (case hq => (repeat (first | with_reducible exact hqc | with_reducible exact Quiet0.refl _ | with_reducible refine Quiet0.trans ?_ (Quiet0.alloc _ _) | with_reducible refine Quiet0.trans ?_ (Quiet0.drew _) | fail))); rintro e wx ⟨oa, la, ca, rfl, hsa, hqx⟩; (try (refine with_st hsb ?hq3 hqx ?_; (case hq3 => (repeat (first | with_reducible exact Quiet0.refl _ | with_reducible refine Quiet0.trans ?_ (Quiet0.alloc _ _) | with_reducible refine Quiet0.trans ?_ (Quiet0.drew _) | fail))); intro hsb)); (refine with_q (w0 := wr) ?hq2 hqx ?_); (case hq2 => (repeat (first | with_reducible exact hqc | with_reducible exact Quiet0.refl _ | with_reducible refine Quiet0.trans ?_ (Quiet0.alloc _ _) | with_reducible refine Quiet0.trans ?_ (Quiet0.drew _) | fail))); intro hqc)
          | (go_at_call 59; (with_reducible refine Calls.mono (HA2.out _ ?hq) ?_); (case hq => (repeat (first | with_reducible exact hqc | with_reducible exact Quiet0.refl _ | with_reducible refine Quiet0.trans ?_ (Quiet0.alloc _ _) | with_reducible refine Quiet0.trans ?_ (Quiet0.drew _) | fail))); rintro e wx ⟨ob, lb, cb, rfl, hsb, hqx⟩; (try (refine with_st hsa ?hq3 hqx ?_; (case hq3 => (repeat (first | with_reducible exact Quiet0.refl _ | with_reducible refine Quiet0.trans ?_ (Quiet0.alloc _ _) | with_reducible refine Quiet0.trans ?_ (Quiet0.drew _) | fail))); intro hsa)); (refine with_q (w0 := wr) ?hq2 hqx ?_); (case hq2 => (repeat (first | with_reducible exact hqc | with_reducible exact Quiet0.refl _ | with_reducible refine Quiet0.trans ?_ (Quiet0.alloc _ _) | with_reducible refine Quiet0.trans ?_ (Quiet0.drew _) | fail))); intro hqc)
          | (go_at_call 19; (with_reducible refine Calls.mono (HSM.out _ _ _ _ _ _ _ (hsa.stay ?h1) (hsb.stay ?h2)) ?_); ((case h1 => (repeat (first | with_reducible exact Quiet0.refl _ | with_reducible refine Quiet0.trans ?_ (Quiet0.alloc _ _) | with_reducible refine Quiet0.trans ?_ (Quiet0.drew _) | fail))); (case h2 => (repeat (first | with_reducible exact Quiet0.refl _ | with_reducible refine Quiet0.trans ?_ (Quiet0.alloc _ _) | with_reducible refine Quiet0.trans ?_ (Quiet0.drew _) | fail)))); rintro e wx ⟨rfl, hqx⟩; (refine with_q (w0 := wr) ?hq2 hqx ?_); (case hq2 => (repeat (first | with_reducible exact hqc | with_reducible exact Quiet0.refl _ | with_reducible refine Quiet0.trans ?_ (Quiet0.alloc _ _) | with_reducible refine Quiet0.trans ?_ (Quiet0.drew _) | fail))); intro hqc)
          | fail)
      all_goals
        clear hsa hsb a1 a2 a3 a4 a5 a6
        have HQ1 := Lib.hid (HQ.out.trans hqc)
        clear hqc
        cases sm
        · go_wp2_with fail
          go_ret
          exact ⟨by rw [HN.out]; rfl, HQ1.out⟩
        · go_wp2_with fail
          go_roundw
          case rel => exact ⟨i + 1, by go_num, by omega, HN.out, HQ1.out⟩
          case measure => simp [intOf]; omega
    · have hlt' : ¬ (i : Int) < es.length := by omega
      have HY : Hid (r = true) := by show _ = _; rw [HRR.out, List.drop_of_length_le (by omega)]; rfl
      go_wp2_with fail
      go_ret
      exact ⟨by rw [HY.out]; rfl, HQ.out⟩
end Go.Proofs.YtggidhgifaekbaaDoor
/-
  Substitutions, in plain words: which binds count, told in two ways; sizes. No program in sight but for the types' own predicates.
-/
namespace Go.Proofs.YtggidhgifaekbaaDoor
open Go.RowKit

def rightQ (t : Bd) : Bool := rightT 1 t.1 .nil && rightT t.2.1 t.2.2.1 t.2.2.2
def rightB (l : List Bd) : Bool := decide ((firstB l).length = l.length) && l.all rightQ
/-- bind by bind: does it count, behind those of acc, and is it right -/
def rightR : List Bd → List Bd → Bool
  | _, [] => true
  | acc, t :: r => !hasB acc t.1 && rightQ t && rightR (acc ++ [t]) r
theorem rightR_eq : ∀ (r acc F : List Bd), (∀ v, hasB F v = hasB acc v) → rightR acc r = (decide ((r.foldl firstStep F).length = F.length + r.length) && r.all rightQ)
  | [], acc, F, h => by simp [rightR]
  | t :: r, acc, F, h => by
    rw [rightR, List.foldl_cons]
    cases hh : hasB acc t.1
    · have e : firstStep F t = F ++ [t] := by unfold firstStep; rw [h, hh]; rfl
      rw [e, rightR_eq r (acc ++ [t]) (F ++ [t]) (fun v => by rw [hasB_snoc, hasB_snoc, h])]
      have e2 : (F ++ [t]).length + r.length = F.length + (t :: r).length := by simp; omega
      rw [e2, List.all_cons]
      cases rightQ t <;> simp
    · have e : firstStep F t = F := by unfold firstStep; rw [h, hh]; rfl
      rw [e]
      have := first_len r F
      have e2 : decide ((r.foldl firstStep F).length = F.length + (t :: r).length) = false := by simp; omega
      rw [e2]; simp
theorem rightB_eq (l : List Bd) : rightB l = rightR [] l := by
  rw [rightR_eq l [] [] (fun _ => rfl)]
  unfold rightB firstB; simp
/-- bind by bind: is there one that counts, of which p is so -/
def anyC (p : Bd → Bool) : List Bd → List Bd → Bool
  | _, [] => false
  | acc, t :: r => (!hasB acc t.1 && p t) || anyC p (acc ++ [t]) r
theorem any_first (p : Bd → Bool) : ∀ (r acc F : List Bd), (∀ v, hasB F v = hasB acc v) → (r.foldl firstStep F).any p = (F.any p || anyC p acc r)
  | [], acc, F, h => by simp [anyC]
  | t :: r, acc, F, h => by
    rw [anyC, List.foldl_cons]
    cases hh : hasB acc t.1
    · have e : firstStep F t = F ++ [t] := by unfold firstStep; rw [h, hh]; rfl
      rw [e, any_first p r (acc ++ [t]) (F ++ [t]) (fun v => by rw [hasB_snoc, hasB_snoc, h])]
      simp [Bool.or_assoc]
    · have e : firstStep F t = F := by unfold firstStep; rw [h, hh]; rfl
      rw [e, any_first p r (acc ++ [t]) F (fun v => by
        rw [hasB_snoc, h]
        by_cases he : t.1 = v
        · subst he; rw [hh]; rfl
        · simp [he])]
      simp
theorem firstB_any (p : Bd → Bool) (l : List Bd) : (firstB l).any p = anyC p [] l := by
  unfold firstB
  rw [any_first p l [] [] (fun _ => rfl)]; simp
/-- does the bind at a place count -/
theorem counts_eq : ∀ (l : List Bd) (k i : Nat) (t : Bd), l[i]? = some t → (idxB t.1 l k == ((k + i : Nat) : Int)) = !hasB (l.take i) t.1
  | [], k, i, t, h => by simp at h
  | u :: r, k, 0, t, h => by
    simp at h; subst h
    simp [idxB, hasB]
  | u :: r, k, i + 1, t, h => by
    have hr : r[i]? = some t := by simpa using h
    have ih := counts_eq r (k + 1) i t hr
    rw [show k + 1 + i = k + (i + 1) from by omega] at ih
    unfold idxB
    rw [List.take_succ_cons]
    cases hu : (u.1 == t.1)
    · simp only [Bool.false_eq_true, if_false]
      rw [ih]
      unfold hasB; simp [hu]
    · simp only [if_true]
      have e1 : ((k : Int) == ((k + (i + 1) : Nat) : Int)) = false := by simp; omega
      rw [e1]
      unfold hasB; simp [hu]
theorem counts0 (l : List Bd) (i : Nat) (t : Bd) (h : l[i]? = some t) : (idxB t.1 l 0 == (i : Int)) = !hasB (l.take i) t.1 := by
  have := counts_eq l 0 i t h
  rwa [Nat.zero_add] at this
theorem has_find (l : List Bd) (v : Int) : decide (0 ≤ idxB v l 0) = hasB l v := by
  rcases idxB_find v l 0 with ⟨h1, h2⟩ | ⟨j, t, h1, h2, h3⟩
  · rw [h1, findB_none.1 h2]; rfl
  · rw [h1]
    have : hasB l v = true := by
      cases hh : hasB l v
      · rw [findB_none.2 hh] at h3; cases h3
      · rfl
    rw [this]; simp
/-- the substitution's size -/
theorem substF_size (l : List Bd) (M : Nat) (hl : ∀ t ∈ l, t.2.2.2.size ≤ M) : ∀ f : Fo, (substF l f).size ≤ f.size * (M + 1)
  | .nil => by simp [substF, Fo.size]
  | .cons k n ps r => by
    have h1 := substF_size l M hl ps
    have h2 := substF_size l M hl r
    unfold substF
    cases hh : hit l k n with
    | none =>
      simp only [Fo.size]
      rw [Nat.add_mul, Nat.add_mul]; omega
    | some t =>
      simp only [Fo.size]
      have ht : t ∈ l := by
        unfold hit at hh
        split at hh
        · exact (findB_mem hh).1
        · cases hh
      have := hl t ht
      rw [Nat.add_mul, Nat.add_mul]; omega
theorem sP_size (l : List Bd) (M : Nat) (hl : ∀ t ∈ l, t.2.2.2.size ≤ M) (k n : Int) (ps : Fo) : (sP l k n ps).size ≤ (ps.size + 1) * (M + 1) := by
  have h := substF_size l M hl (.cons k n ps .nil)
  rw [substF_cons] at h
  simp only [Fo.size] at h
  unfold substF at h
  simp only [Fo.size] at h
  have e : ps.size + 1 + 0 = ps.size + 1 := rfl
  rw [e] at h
  omega
end Go.Proofs.YtggidhgifaekbaaDoor
/-
  The program's Right on substitutions; slices.IndexFunc and ContainsFunc on binds. Conditions: the binds lie in memory as told; their variables are in range; there are few.
-/
namespace Go.Proofs.YtggidhgifaekbaaDoor
open Go.RowKit Go.Maps

def bdv (t : Bd) (o : Option Addr) (len cap : Nat) : Value := .agg #[.int .i64 t.1, .int .i64 t.2.1, .int .i64 t.2.2.1, .slice o len cap]
def idxP (p : Bd → Bool) : List Bd → Nat → Int
  | [], _ => -1
  | t :: r, i => if p t then i else idxP p r (i + 1)
theorem idxP_any (p : Bd → Bool) : ∀ (l : List Bd) (i : Nat), decide (0 ≤ idxP p l i) = l.any p
  | [], i => rfl
  | t :: r, i => by
    unfold idxP
    rw [List.any_cons]
    cases h : p t
    · simp only [Bool.false_eq_true, if_false, Bool.false_or]; exact idxP_any p r (i + 1)
    · simp
def PredB (g : Nat) (lb : Array Value) (w0 : World) (l : List Bd) (p : Bd → Bool) : Prop := ∀ t ∈ l, ∀ (W : World) (o : Option Addr) (len cap : Nat), Quiet0 w0 W → Slc W o len t.2.2.2 →
  Calls Tryd.prog g (#[bdv t o len cap] ++ lb) W fun e W' => e = .returned (.bool (p t)) ∧ Quiet0 W W'
set_option maxHeartbeats 1000000 in
theorem indexB_any (g : Nat) (lb : Array Value) (p : Bd → Bool) (eg : ∀ args w, (callFunc g args).run Tryd.prog w = .ok (.enter g args) w) (l : List Bd) (o : Option Addr) (cap : Nat) (w : World) (hs : BindsAt w o l) (hp : PredB g lb w l p) (hz : l.length ≤ 1000000) :
    Calls Tryd.prog 121 #[.slice o l.length cap, .func (.func g) #[] lb] w fun e w' => e = .returned (.int .i64 (idxP p l 0)) ∧ Quiet0 w w' := by
  have HS := Lib.hid hs
  have HP := Lib.hid hp
  clear hs hp
  obtain ⟨res, hres⟩ : ∃ res, res = idxP p l 0 := ⟨_, rfl⟩
  have HR := Lib.hid hres
  rw [← hres]
  clear hres
  go_enter Tryd.func121, Tryd.ntmps121
  go_wp2_with fail
  go_loopw [8] (fun t wr => ∃ i : Nat, t = .int .i64 i ∧ i ≤ l.length ∧ res = idxP p (l.drop i) i ∧ Quiet0 w wr) (fun t _ => l.length - (intOf t).toNat)
  case atStart => exact ⟨0, rfl, Nat.zero_le _, HR.out, Quiet0.refl _⟩
  case round =>
    obtain ⟨i, rfl, hi, hr, hq⟩ := hrel
    have HRR := Lib.hid hr
    have HQ := Lib.hid hq
    clear hr hq
    by_cases hlt : i < l.length
    · have hlt' : (i : Int) < l.length := by omega
      obtain ⟨t, ht⟩ : ∃ t, l[i]? = some t := ⟨_, List.getElem?_eq_getElem hlt⟩
      obtain ⟨b, off, o1, l1, c1, rfl, a0, a1, a2, a3, s1⟩ := HS.out.stay HQ.out i t ht
      have HN : Hid (res = if p t then (i : Int) else idxP p (l.drop (i + 1)) (i + 1)) := by
        show _ = _
        rw [HRR.out, drop_some ht]; rfl
      have HC := Lib.hid (HP.out t (List.mem_of_getElem? ht) wr o1 l1 c1 HQ.out s1)
      unfold bdv at HC
      clear ht s1
      cases hb : p t
      all_goals
        rw [hb] at HC HN
        clear hb
        go_wp2_with fail
        refine HC.out.mono ?_; rintro e w1 ⟨rfl, hq1⟩
        have HQ1 := Lib.hid (HQ.out.trans hq1)
        clear hq1
        go_wp2_with fail
      · go_roundw
        case rel => exact ⟨i + 1, by go_num, by omega, HN.out, HQ1.out⟩
        case measure => simp [intOf]; omega
      · go_ret
        exact ⟨by rw [HN.out]; rfl, HQ1.out⟩
    · have hlt' : ¬ (i : Int) < l.length := by omega
      have HY : Hid (res = -1) := by show _ = _; rw [HRR.out, List.drop_of_length_le (by omega)]; rfl
      go_wp2_with fail
      go_ret
      exact ⟨by rw [HY.out]; rfl, HQ.out⟩
theorem containsB_any (g : Nat) (lb : Array Value) (p : Bd → Bool) (eg : ∀ args w, (callFunc g args).run Tryd.prog w = .ok (.enter g args) w) (l : List Bd) (o : Option Addr) (cap : Nat) (w : World) (hs : BindsAt w o l) (hp : PredB g lb w l p) (hz : l.length ≤ 1000000) :
    Calls Tryd.prog 99 #[.slice o l.length cap, .func (.func g) #[] lb] w fun e w' => e = .returned (.bool (l.any p)) ∧ Quiet0 w w' := by
  have HC := Lib.hid (indexB_any g lb p eg l o cap w hs hp hz)
  rw [← idxP_any p l 0]
  clear hs hp eg
  generalize idxP p l 0 = r at *
  go_enter Tryd.func99, Tryd.ntmps99
  go_wp2_with fail
  refine HC.out.mono ?_; rintro e w1 ⟨rfl, hq⟩
  go_wp2_with fail
  go_ret
  exact ⟨rfl, hq⟩
theorem eg_suright : ∀ args w, (callFunc 103 args).run Tryd.prog w = .ok (.enter 103 args) w := enters_of Tryd.func103 (by kernel_rfl) rfl
set_option maxHeartbeats 2000000 in
set_option maxRecDepth 100000 in
theorem right1_any (w0 : World) (l : List Bd) : PredB 103 #[] w0 l (fun t => !rightQ t) := by
  intro t ht W o len cap hq hs
  show Calls _ _ _ W fun e W' => e = .returned (.bool (!rightQ t)) ∧ Quiet0 W W'
  have HV := Lib.hid (fun (W : World) => var_any t.1 W)
  have HR1 := Lib.hid (fun (W : World) => right_any 1 t.1 .nil W none 0 0 (Slc.nil _ _))
  have HR2 := Lib.hid (fun (W' : World) (h : Quiet0 W W') => right_any t.2.1 t.2.2.1 t.2.2.2 W' o len cap (hs.stay h))
  unfold rightQ bdv
  unfold tyv at HV HR1 HR2
  generalize rightT 1 t.1 .nil = r1 at *
  generalize rightT t.2.1 t.2.2.1 t.2.2.2 = r2 at *
  generalize t.1 = v at *
  generalize t.2.1 = k at *
  generalize t.2.2.1 = n at *
  clear hs ht hq
  obtain ⟨W0, hW0⟩ : ∃ W0, W0 = W.alloc (.cells #[.int .i64 v, .int .i64 k, .int .i64 n, .slice o len cap] 91) := ⟨_, rfl⟩
  have HB : Hid (W0.heap[W.heap.size]? = some (.cells #[.int .i64 v, .int .i64 k, .int .i64 n, .slice o len cap] 91 (0, 0))) := by rw [hW0]; exact heap_alloc_new _ _
  have HQ0 : Hid (Quiet0 W W0) := by rw [hW0]; exact Quiet0.alloc _ _
  have HBC : Hid (∀ w', Quiet0 W0 w' → w'.cell? ⟨W.heap.size, 0, none⟩ = some (.int .i64 v) ∧ w'.cell? ⟨W.heap.size, 1, none⟩ = some (.int .i64 k) ∧ w'.cell? ⟨W.heap.size, 2, none⟩ = some (.int .i64 n) ∧ w'.cell? ⟨W.heap.size, 3, none⟩ = some (.slice o len cap)) := by
    intro w' h
    have hb := blk_after h HB.out
    refine ⟨?_, ?_, ?_, ?_⟩ <;> (rw [cell_of_row _ _ _ _ _ (0, 0) hb]; rfl)
  generalize hB : W.heap.size = B at *
  go_enter Tryd.func103, Tryd.ntmps103
  go_upto_region 1 with fail
  rw [← hW0]
  clear hW0 hB
  obtain ⟨a0, a1, a2, a3⟩ := HBC.out W0 (Quiet0.refl _)
  go_wp2_with fail
  refine (HV.out _).mono ?_; rintro e w1 ⟨rfl, hq1⟩
  have HQ1 := Lib.hid hq1
  obtain ⟨b0, b1, b2, b3⟩ := HBC.out w1 hq1
  clear hq1 a0 a1 a2 a3
  go_wp2_with fail
  refine (HR1.out _).mono ?_; rintro e w2 ⟨rfl, hq2⟩
  have HQ2 := Lib.hid (HQ1.out.trans hq2)
  obtain ⟨a0, a1, a2, a3⟩ := HBC.out w2 HQ2.out
  clear hq2 b0 b1 b2 b3
  cases r1
  · go_wp2_with fail
    go_ret
    exact ⟨rfl, HQ0.out.trans HQ2.out⟩
  · go_wp2_with fail
    refine (HR2.out _ (HQ0.out.trans HQ2.out)).mono ?_; rintro e w3 ⟨rfl, hq3⟩
    have HQ3 := Lib.hid (HQ2.out.trans hq3)
    clear hq3 a0 a1 a2 a3
    go_wp2_with fail
    go_ret
    exact ⟨rfl, HQ0.out.trans HQ3.out⟩
set_option maxHeartbeats 2000000 in
set_option maxRecDepth 100000 in
theorem suRight_any (l : List Bd) (w : World) (o : Option Addr) (cap : Nat) (hs : BindsAt w o l) (hw : ∀ t ∈ l, wfI t.1) (hz : l.length ≤ 100000) :
    Calls Tryd.prog 60 #[.slice o l.length cap] w fun e w' => e = .returned (.bool (rightB l)) ∧ Quiet0 w w' := by
  have HC := Lib.hid (count_any l w o cap hs hw hz)
  have HF := Lib.hid (fun (W : World) (h : Quiet0 w W) => containsB_any 103 #[] (fun t => !rightQ t) eg_suright l o cap W (hs.stay h) (right1_any W l) (by omega))
  have HA : Hid (rightB l = (decide ((firstB l).length = l.length) && !(l.any fun t => !rightQ t))) := by
    show _ = _
    unfold rightB
    rw [List.not_any_eq_all_not]; simp
  rw [HA.out]
  generalize (l.any fun t => !rightQ t) = r at *
  generalize hfl : (firstB l).length = fl at *
  obtain ⟨RR, hRR⟩ : ∃ RR, RR = (decide (fl = l.length) && !r) := ⟨_, rfl⟩
  rw [← hRR]
  have HRR := Lib.hid hRR
  have hfz : fl ≤ 100000 := by rw [← hfl]; have := first_len l []; simp at this; unfold firstB; omega
  clear hs hw hfl HA hRR
  go_enter Tryd.func60, Tryd.ntmps60
  go_wp2_with fail
  refine HC.out.mono ?_; rintro e w1 ⟨a, c, rfl, hb, hq1⟩
  have HQ1 := Lib.hid hq1
  clear hb hq1
  cases he : decide (fl = l.length)
  · have HE := Lib.hid he
    have he' : decide ((fl : Int) = l.length) = false := by simp at he ⊢; omega
    have he2 : ((fl : Int) == l.length) = false := by simp at he ⊢; omega
    clear he
    go_wp2_with fail
    go_ret
    exact ⟨by rw [HRR.out, HE.out]; rfl, HQ1.out⟩
  · have HE := Lib.hid he
    have he' : decide ((fl : Int) = l.length) = true := by simp at he ⊢; omega
    have he2 : ((fl : Int) == l.length) = true := by simp at he ⊢; omega
    go_wp2_with fail
    clear he
    refine (HF.out _ HQ1.out).mono ?_; rintro e w2 ⟨rfl, hq2⟩
    have HQ2 := Lib.hid (HQ1.out.trans hq2)
    clear hq2
    go_wp2_with fail
    go_ret
    exact ⟨by rw [HRR.out, HE.out]; cases r <;> rfl, HQ2.out⟩
end Go.Proofs.YtggidhgifaekbaaDoor
/-
  The reference's Vars, whole. Conditions: as TyRefVars'.
-/
namespace Go.Proofs.YtggidhgifaekbaaDoor
open Go.RowKit Go.Maps

def RVars (k n : Int) (ps : Fo) : Prop := ∀ (w : World) (o : Option Addr) (len cap : Nat) (vo : Value) (L : List Int), Slc w o len ps → IntsV w vo L → L.length + ps.size ≤ 199000 + 999 →
  Calls Tryd.prog 43 #[tyv k n o len cap, vo] w fun e w' => ∃ vo', e = .returned vo' ∧ IntsV w' vo' (Fo.vars L (.cons k n ps .nil)) ∧ Quiet0 w w'
set_option maxHeartbeats 4000000 in
set_option maxRecDepth 100000 in
theorem refVars_any (k n : Int) (ps : Fo) : RVars k n ps := by
  refine Fo.ind' (T := RVars) ?_ k n ps
  intro k n ps ih w o len cap vo L hs hv hsz
  obtain ⟨va, vc, rfl, hat⟩ := hv
  have HS := Lib.hid hs
  have HL := Lib.hid hs.1
  have hmx := hs.2.1
  unfold maxLen at hmx
  have IH := Lib.hid ih
  have HAT0 := Lib.hid hat
  obtain ⟨RES, hres⟩ : ∃ RES, RES = Fo.vars L (.cons k n ps .nil) := ⟨_, rfl⟩
  have HRES : Hid (RES = Fo.vars (varStep L k n ps) ps) := hres
  have HIN := Lib.hid (fun (W : World) (hq : Quiet0 w W) => refIn_any va L.length vc L n W (hat.stay hq) rfl (by omega))
  obtain ⟨W0, hW0⟩ : ∃ W0, W0 = w.alloc (.cells #[.int .i64 k, .int .i64 n, .slice o len cap] 24) := ⟨_, rfl⟩
  have HQ0 : Hid (Quiet0 w W0) := by rw [hW0]; exact Quiet0.alloc _ _
  have HBB : Hid (∀ W, Quiet0 W0 W → W.cell? ⟨w.heap.size, 0, none⟩ = some (.int .i64 k) ∧ W.cell? ⟨w.heap.size, 1, none⟩ = some (.int .i64 n) ∧ W.cell? ⟨w.heap.size, 2, none⟩ = some (.slice o len cap)) := by
    intro W hq; rw [hW0] at hq; exact box_cells w k n o len cap _ W hq
  rw [← hres]
  clear hs hat ih hres
  unfold tyv
  cases hk : (k == 1)
  · have HST : Hid (varStep L k n ps = L) := by show _ = _; unfold varStep; rw [hk]; rfl
    go_enter Tryd.func43, Tryd.ntmps43
    generalize hB : w.heap.size = B at *
    go_upto_region 1 with fail
    rw [← hW0]
    clear hW0
    obtain ⟨a0, a1, a2⟩ := HBB.out W0 (Quiet0.refl _)
    go_wp2_with fail
    go_loopw [1, 5] (fun v t wr => ∃ (i : Nat) (l : List Int), t = .int .i64 i ∧ i ≤ len ∧ IntsV wr v l ∧ Fo.vars l (ps.drop i) = RES ∧ l.length + (ps.drop i).size ≤ 200000 ∧ Quiet0 W0 wr) (fun _ t _ => len - (intOf t).toNat)
    case atStart => exact ⟨0, L, rfl, Nat.zero_le _, ⟨va, vc, rfl, HAT0.out.stay HQ0.out⟩, by rw [Fo.drop_zero, HRES.out, HST.out], by rw [Fo.drop_zero]; omega, Quiet0.refl _⟩
    case round =>
      obtain ⟨i, l, rfl, hi, hv, hr, hz, hq⟩ := hrel
      have HV := Lib.hid hv
      have HR := Lib.hid hr
      have HZ := Lib.hid hz
      have HQ := Lib.hid hq
      obtain ⟨b0, b1, b2⟩ := HBB.out wr hq
      clear hv hr hz hq
      by_cases hlt : i < len
      · have hlt' : (i : Int) < len := by omega
        obtain ⟨b, off, k1, n1, qs, o1, len1, cap1, rfl, hd, hg, e0, e1, e2, hs1⟩ := (HS.out.stay (HQ0.out.trans HQ.out)).nth hlt
        have hzz : l.length + qs.size + 1 + (ps.drop (i + 1)).size ≤ 200000 := by have := HZ.out; rw [hd] at this; simp only [Fo.size] at this; omega
        have HC := Lib.hid (IH.out i k1 n1 qs hg wr o1 len1 cap1 u1 l hs1 HV.out (by omega))
        have HR2 : Hid (Fo.vars (Fo.vars l (.cons k1 n1 qs .nil)) (ps.drop (i + 1)) = RES) := by
          show _ = _
          rw [← HR.out, hd]; rfl
        have HZ2 : Hid ((Fo.vars l (.cons k1 n1 qs .nil)).length + (ps.drop (i + 1)).size ≤ 200000) := by
          show _ ≤ _
          have := vars_len (.cons k1 n1 qs .nil) l
          simp only [Fo.size] at this
          omega
        unfold tyv at HC
        generalize Fo.vars l (.cons k1 n1 qs .nil) = l2 at *
        clear hd hg hs1 hzz
        go_wp2_with fail
        refine HC.out.mono ?_; rintro e w2 ⟨v2, rfl, hv2, hq2⟩
        have HV2 := Lib.hid hv2
        have HQ2 := Lib.hid (HQ.out.trans hq2)
        clear hv2 hq2
        go_wp2_with fail
        go_roundw
        case rel => exact ⟨i + 1, l2, by go_num, by omega, HV2.out, HR2.out, HZ2.out, HQ2.out⟩
        case measure => simp [intOf]; omega
      · have hlt' : ¬ (i : Int) < len := by omega
        have hfin : l = RES := by have := HR.out; rw [Fo.drop_end ps i (by have := HL.out; omega)] at this; exact this
        have HFIN := Lib.hid hfin
        clear hfin
        go_wp2_with fail
        go_ret
        exact ⟨_, rfl, HFIN.out ▸ HV.out, HQ0.out.trans HQ.out⟩
  · cases hin : inB L n
    · have HST : Hid (varStep L k n ps = L ++ [n]) := by show _ = _; unfold varStep; rw [hk, hin]; rfl
      rw [hin] at HIN
      go_enter Tryd.func43, Tryd.ntmps43
      generalize hB : w.heap.size = B at *
      go_upto_region 1 with fail
      rw [← hW0]
      clear hW0
      obtain ⟨a0, a1, a2⟩ := HBB.out W0 (Quiet0.refl _)
      go_wp2_with fail
      refine (HIN.out _ HQ0.out).mono ?_; rintro e W1' ⟨rfl, rfl⟩
      have hq1 := Quiet0.refl W0
      have HQ1 := Lib.hid hq1
      clear a0 a1 a2
      go_upto_region 2 with fail
      obtain ⟨a0, a1, a2⟩ := HBB.out W0 hq1
      clear hq1
      have HAT := Lib.hid (HAT0.out.stay (HQ0.out.trans HQ1.out))
      have HS1 : Hid (∀ W, Quiet0 W0 W → W.cell? ⟨B, 1, none⟩ = some (.int .i64 n)) := fun W hq => (HBB.out W (HQ1.out.trans hq)).2.1
      go_cut [1] (fun v wx => IntsV wx v (L ++ [n]) ∧ Quiet0 W0 wx)
      case first =>
        have hqc := Quiet0.refl W0
        go_region_held3 (fun w' => w'.cell? ⟨B, 1, none⟩ = some (.int .i64 n))
          (((refine HS1.out _ ?_); (repeat (first | with_reducible exact hqc | with_reducible exact Quiet0.refl _ | with_reducible refine Quiet0.trans ?_ (Quiet0.alloc _ _) | with_reducible refine Quiet0.trans ?_ (Quiet0.drew _) | fail))))
          (first
            | ((refine step_ints _ rfl (.tmp 16) (.tmp 17) rfl (.slice (some ⟨W0.heap.size, 0, none⟩) 0 0) [] rfl ?hown va L L.length vc rfl rfl ?hat ?hbd ?hne ?_); (case hown => ((refine own_empty ?_); (repeat (first | ((with_reducible refine blk_new _ _ _ _ ?hbe); (case hbe => (simp; done))) | with_reducible refine blk_after (Quiet0.alloc _ _) ?_ | with_reducible refine blk_drew ?_ | ((with_reducible refine blk_fr hf3 ?hbo ?_); (case hbo => (simp [Value.ownBlock]; done))) | ((with_reducible refine blk_fr hf3 ?hbo ?_); (case hbo => (simp [Value.ownBlock]; omega))) | fail)))); (case hat => (repeat (first | with_reducible exact HAT.out | with_reducible refine IntsAt.stay ?_ (Quiet0.alloc _ _) | with_reducible refine IntsAt.stay ?_ (Quiet0.drew _) | fail))); (case hbd => (simp; omega)); (case hne => simp); intro v3 w3 ho3 hf3 hg3 hn3; (refine with_fr2 (w0 := W0) ?hch hf3 ?hlo ?_); (case hch => (repeat (first | with_reducible exact hqc | with_reducible exact Quiet0.refl _ | with_reducible refine Quiet0.trans ?_ (Quiet0.alloc _ _) | with_reducible refine Quiet0.trans ?_ (Quiet0.drew _) | fail))); (case hlo => (intro k hk; simp [Value.ownBlock] at hk; omega)); intro hqc hw3)
            | ((refine step_ints _ rfl (.tmp 16) (.tmp 17) rfl (.slice (some ⟨W0.heap.size + 1, 0, none⟩) 0 0) [] rfl ?hown va L L.length vc rfl rfl ?hat ?hbd ?hne ?_); (case hown => ((refine own_empty ?_); (repeat (first | ((with_reducible refine blk_new _ _ _ _ ?hbe); (case hbe => (simp; done))) | with_reducible refine blk_after (Quiet0.alloc _ _) ?_ | with_reducible refine blk_drew ?_ | ((with_reducible refine blk_fr hf3 ?hbo ?_); (case hbo => (simp [Value.ownBlock]; done))) | ((with_reducible refine blk_fr hf3 ?hbo ?_); (case hbo => (simp [Value.ownBlock]; omega))) | fail)))); (case hat => (repeat (first | with_reducible exact HAT.out | with_reducible refine IntsAt.stay ?_ (Quiet0.alloc _ _) | with_reducible refine IntsAt.stay ?_ (Quiet0.drew _) | fail))); (case hbd => (simp; omega)); (case hne => simp); intro v3 w3 ho3 hf3 hg3 hn3; (refine with_fr2 (w0 := W0) ?hch hf3 ?hlo ?_); (case hch => (repeat (first | with_reducible exact hqc | with_reducible exact Quiet0.refl _ | with_reducible refine Quiet0.trans ?_ (Quiet0.alloc _ _) | with_reducible refine Quiet0.trans ?_ (Quiet0.drew _) | fail))); (case hlo => (intro k hk; simp [Value.ownBlock] at hk; omega)); intro hqc hw3)
            | ((refine step_ints _ rfl (.tmp 18) (.tmp 21) rfl v3 ([] ++ L) rfl ?hown (some ⟨W0.heap.size, 0, none⟩) [n] 1 1 rfl rfl ?hat ?hbd hn3 ?_); (case hown => (first | with_reducible exact ho3 | with_reducible exact ho3.alloc _ | fail)); (case hat => ((refine ints_one ?_); (repeat (first | ((with_reducible refine blk_new _ _ _ _ ?hbe); (case hbe => (simp; done))) | with_reducible refine blk_after (Quiet0.alloc _ _) ?_ | with_reducible refine blk_drew ?_ | ((with_reducible refine blk_fr hf3 ?hbo ?_); (case hbo => (simp [Value.ownBlock]; done))) | ((with_reducible refine blk_fr hf3 ?hbo ?_); (case hbo => (simp [Value.ownBlock]; omega))) | fail)))); (case hbd => (simp; omega)); intro v4 w4 ho4 hf4 hg4 hn4; (refine with_fr2 (w0 := W0) ?hch hf4 ?hlo ?_); (case hch => (repeat (first | with_reducible exact hqc | with_reducible exact Quiet0.refl _ | with_reducible refine Quiet0.trans ?_ (Quiet0.alloc _ _) | with_reducible refine Quiet0.trans ?_ (Quiet0.drew _) | fail))); (case hlo => (intro k hk; rcases hg3 k hk with h | h; (simp [Value.ownBlock] at h; omega); (simp at h; omega))); intro hqc hw4)
            | ((refine step_ints _ rfl (.tmp 18) (.tmp 21) rfl v3 ([] ++ L) rfl ?hown (some ⟨W0.heap.size + 1, 0, none⟩) [n] 1 1 rfl rfl ?hat ?hbd hn3 ?_); (case hown => (first | with_reducible exact ho3 | with_reducible exact ho3.alloc _ | fail)); (case hat => ((refine ints_one ?_); (repeat (first | ((with_reducible refine blk_new _ _ _ _ ?hbe); (case hbe => (simp; done))) | with_reducible refine blk_after (Quiet0.alloc _ _) ?_ | with_reducible refine blk_drew ?_ | ((with_reducible refine blk_fr hf3 ?hbo ?_); (case hbo => (simp [Value.ownBlock]; done))) | ((with_reducible refine blk_fr hf3 ?hbo ?_); (case hbo => (simp [Value.ownBlock]; omega))) | fail)))); (case hbd => (simp; omega)); intro v4 w4 ho4 hf4 hg4 hn4; (refine with_fr2 (w0 := W0) ?hch hf4 ?hlo ?_); (case hch => (repeat (first | with_reducible exact hqc | with_reducible exact Quiet0.refl _ | with_reducible refine Quiet0.trans ?_ (Quiet0.alloc _ _) | with_reducible refine Quiet0.trans ?_ (Quiet0.drew _) | fail))); (case hlo => (intro k hk; rcases hg3 k hk with h | h; (simp [Value.ownBlock] at h; omega); (simp at h; omega))); intro hqc hw4)
            | ((refine step_ints _ rfl (.tmp 18) (.tmp 21) rfl v3 ([] ++ L) rfl ?hown (some ⟨w3.heap.size, 0, none⟩) [n] 1 1 rfl rfl ?hat ?hbd hn3 ?_); (case hown => (first | with_reducible exact ho3 | with_reducible exact ho3.alloc _ | fail)); (case hat => ((refine ints_one ?_); (repeat (first | ((with_reducible refine blk_new _ _ _ _ ?hbe); (case hbe => (simp; done))) | with_reducible refine blk_after (Quiet0.alloc _ _) ?_ | with_reducible refine blk_drew ?_ | ((with_reducible refine blk_fr hf3 ?hbo ?_); (case hbo => (simp [Value.ownBlock]; done))) | ((with_reducible refine blk_fr hf3 ?hbo ?_); (case hbo => (simp [Value.ownBlock]; omega))) | fail)))); (case hbd => (simp; omega)); intro v4 w4 ho4 hf4 hg4 hn4; (refine with_fr2 (w0 := W0) ?hch hf4 ?hlo ?_); (case hch => (repeat (first | with_reducible exact hqc | with_reducible exact Quiet0.refl _ | with_reducible refine Quiet0.trans ?_ (Quiet0.alloc _ _) | with_reducible refine Quiet0.trans ?_ (Quiet0.drew _) | fail))); (case hlo => (intro k hk; rcases hg3 k hk with h | h; (simp [Value.ownBlock] at h; omega); (simp at h; omega))); intro hqc hw4)
            | fail)
        all_goals
          go_wp2_with fail
          go_meet
          exact ⟨by have := ownsInts_v ho4; simpa using this, hqc⟩
      case rest =>
        obtain ⟨hvn, hqn⟩ := hcut
        have HVN := Lib.hid hvn
        have HQN := Lib.hid (HQ1.out.trans hqn)
        clear a0 a1 a2 hvn hqn
        go_wp2_with fail
        go_loopw [1, 5] (fun v t wr => ∃ (i : Nat) (l : List Int), t = .int .i64 i ∧ i ≤ len ∧ IntsV wr v l ∧ Fo.vars l (ps.drop i) = RES ∧ l.length + (ps.drop i).size ≤ 200000 ∧ Quiet0 W0 wr) (fun _ t _ => len - (intOf t).toNat)
        case atStart => exact ⟨0, L ++ [n], rfl, Nat.zero_le _, HVN.out, by rw [Fo.drop_zero, HRES.out, HST.out], by rw [Fo.drop_zero]; simp; omega, HQN.out⟩
        case round =>
          obtain ⟨i, l, rfl, hi, hv, hr, hz, hq⟩ := hrel
          have HV := Lib.hid hv
          have HR := Lib.hid hr
          have HZ := Lib.hid hz
          have HQ := Lib.hid hq
          obtain ⟨b0, b1, b2⟩ := HBB.out wr hq
          clear hv hr hz hq
          by_cases hlt : i < len
          · have hlt' : (i : Int) < len := by omega
            obtain ⟨b, off, k1, n1, qs, o1, len1, cap1, rfl, hd, hg, e0, e1, e2, hs1⟩ := (HS.out.stay (HQ0.out.trans HQ.out)).nth hlt
            have hzz : l.length + qs.size + 1 + (ps.drop (i + 1)).size ≤ 200000 := by have := HZ.out; rw [hd] at this; simp only [Fo.size] at this; omega
            have HC := Lib.hid (IH.out i k1 n1 qs hg wr o1 len1 cap1 u1 l hs1 HV.out (by omega))
            have HR2 : Hid (Fo.vars (Fo.vars l (.cons k1 n1 qs .nil)) (ps.drop (i + 1)) = RES) := by
              show _ = _
              rw [← HR.out, hd]; rfl
            have HZ2 : Hid ((Fo.vars l (.cons k1 n1 qs .nil)).length + (ps.drop (i + 1)).size ≤ 200000) := by
              show _ ≤ _
              have := vars_len (.cons k1 n1 qs .nil) l
              simp only [Fo.size] at this
              omega
            unfold tyv at HC
            generalize Fo.vars l (.cons k1 n1 qs .nil) = l2 at *
            clear hd hg hs1 hzz
            go_wp2_with fail
            refine HC.out.mono ?_; rintro e w2 ⟨v2, rfl, hv2, hq2⟩
            have HV2 := Lib.hid hv2
            have HQ2 := Lib.hid (HQ.out.trans hq2)
            clear hv2 hq2
            go_wp2_with fail
            go_roundw
            case rel => exact ⟨i + 1, l2, by go_num, by omega, HV2.out, HR2.out, HZ2.out, HQ2.out⟩
            case measure => simp [intOf]; omega
          · have hlt' : ¬ (i : Int) < len := by omega
            have hfin : l = RES := by have := HR.out; rw [Fo.drop_end ps i (by have := HL.out; omega)] at this; exact this
            have HFIN := Lib.hid hfin
            clear hfin
            go_wp2_with fail
            go_ret
            exact ⟨_, rfl, HFIN.out ▸ HV.out, HQ0.out.trans HQ.out⟩
    · have HST : Hid (varStep L k n ps = L) := by show _ = _; unfold varStep; rw [hk, hin]; rfl
      rw [hin] at HIN
      go_enter Tryd.func43, Tryd.ntmps43
      generalize hB : w.heap.size = B at *
      go_upto_region 1 with fail
      rw [← hW0]
      clear hW0
      obtain ⟨a0, a1, a2⟩ := HBB.out W0 (Quiet0.refl _)
      go_wp2_with fail
      refine (HIN.out _ HQ0.out).mono ?_; rintro e W1' ⟨rfl, rfl⟩
      have hq1 := Quiet0.refl W0
      have HQ1 := Lib.hid hq1
      clear a0 a1 a2 hq1
      go_wp2_with fail
      go_loopw [1, 5] (fun v t wr => ∃ (i : Nat) (l : List Int), t = .int .i64 i ∧ i ≤ len ∧ IntsV wr v l ∧ Fo.vars l (ps.drop i) = RES ∧ l.length + (ps.drop i).size ≤ 200000 ∧ Quiet0 W0 wr) (fun _ t _ => len - (intOf t).toNat)
      case atStart => exact ⟨0, L, rfl, Nat.zero_le _, ⟨va, vc, rfl, HAT0.out.stay (HQ0.out.trans HQ1.out)⟩, by rw [Fo.drop_zero, HRES.out, HST.out], by rw [Fo.drop_zero]; omega, HQ1.out⟩
      case round =>
        obtain ⟨i, l, rfl, hi, hv, hr, hz, hq⟩ := hrel
        have HV := Lib.hid hv
        have HR := Lib.hid hr
        have HZ := Lib.hid hz
        have HQ := Lib.hid hq
        obtain ⟨b0, b1, b2⟩ := HBB.out wr hq
        clear hv hr hz hq
        by_cases hlt : i < len
        · have hlt' : (i : Int) < len := by omega
          obtain ⟨b, off, k1, n1, qs, o1, len1, cap1, rfl, hd, hg, e0, e1, e2, hs1⟩ := (HS.out.stay (HQ0.out.trans HQ.out)).nth hlt
          have hzz : l.length + qs.size + 1 + (ps.drop (i + 1)).size ≤ 200000 := by have := HZ.out; rw [hd] at this; simp only [Fo.size] at this; omega
          have HC := Lib.hid (IH.out i k1 n1 qs hg wr o1 len1 cap1 u1 l hs1 HV.out (by omega))
          have HR2 : Hid (Fo.vars (Fo.vars l (.cons k1 n1 qs .nil)) (ps.drop (i + 1)) = RES) := by
            show _ = _
            rw [← HR.out, hd]; rfl
          have HZ2 : Hid ((Fo.vars l (.cons k1 n1 qs .nil)).length + (ps.drop (i + 1)).size ≤ 200000) := by
            show _ ≤ _
            have := vars_len (.cons k1 n1 qs .nil) l
            simp only [Fo.size] at this
            omega
          unfold tyv at HC
          generalize Fo.vars l (.cons k1 n1 qs .nil) = l2 at *
          clear hd hg hs1 hzz
          go_wp2_with fail
          refine HC.out.mono ?_; rintro e w2 ⟨v2, rfl, hv2, hq2⟩
          have HV2 := Lib.hid hv2
          have HQ2 := Lib.hid (HQ.out.trans hq2)
          clear hv2 hq2
          go_wp2_with fail
          go_roundw
          case rel => exact ⟨i + 1, l2, by go_num, by omega, HV2.out, HR2.out, HZ2.out, HQ2.out⟩
          case measure => simp [intOf]; omega
        · have hlt' : ¬ (i : Int) < len := by omega
          have hfin : l = RES := by have := HR.out; rw [Fo.drop_end ps i (by have := HL.out; omega)] at this; exact this
          have HFIN := Lib.hid hfin
          clear hfin
          go_wp2_with fail
          go_ret
          exact ⟨_, rfl, HFIN.out ▸ HV.out, HQ0.out.trans HQ.out⟩
end Go.Proofs.YtggidhgifaekbaaDoor
/-
  The reference's Counts, Right and Solved on substitutions. Conditions: the binds lie in memory as told; they are few and small.
-/
namespace Go.Proofs.YtggidhgifaekbaaDoor
open Go.RowKit Go.Maps

set_option maxHeartbeats 1000000 in
theorem counts_any (l : List Bd) (w : World) (o : Option Addr) (cap : Nat) (i : Nat) (t : Bd) (ht : l[i]? = some t) (hs : BindsAt w o l) (hz : l.length ≤ 100000) :
    Calls Tryd.prog 104 #[.slice o l.length cap, .int .i64 i] w fun e w' => e = .returned (.bool (!hasB (l.take i) t.1)) ∧ Quiet0 w w' := by
  have HF := Lib.hid (fun (W : World) (h : Quiet0 w W) => find_any l W o cap t.1 (hs.stay h) (by omega))
  rw [← counts0 l i t ht]
  obtain ⟨b, off, o1, l1, c1, rfl, a0, a1, a2, a3, s1⟩ := hs i t ht
  have hlt : i < l.length := (List.getElem?_eq_some_iff.1 ht).1
  have hlt' : (i : Int) < l.length := by omega
  generalize idxB t.1 l 0 = r at *
  generalize t.1 = v at *
  clear hs ht s1 a1 a2 a3
  go_enter Tryd.func104, Tryd.ntmps104
  go_wp2_with fail
  refine (HF.out _ (Quiet0.refl _)).mono ?_; rintro e w1 ⟨rfl, hq⟩
  go_wp2_with fail
  go_ret
  exact ⟨rfl, hq⟩
theorem rightT_var (v : Int) : rightT 1 v .nil = (decide (0 ≤ v) && decide (v < 1073741824)) := by
  simp [rightT, Fo.plain, Fo.length, Fo.right]
set_option maxHeartbeats 4000000 in
set_option maxRecDepth 100000 in
theorem suRefRight_any (l : List Bd) (w : World) (o : Option Addr) (cap : Nat) (hs : BindsAt w o l) (hz : l.length ≤ 100000) :
    Calls Tryd.prog 61 #[.slice o l.length cap] w fun e w' => e = .returned (.bool (rightB l)) ∧ Quiet0 w w' := by
  have HS := Lib.hid hs
  rw [rightB_eq]
  obtain ⟨r, hr⟩ : ∃ r, r = rightR [] l := ⟨_, rfl⟩
  have HR := Lib.hid hr
  rw [← hr]
  clear hs hr
  go_enter Tryd.func61, Tryd.ntmps61
  go_wp2_with fail
  go_loopw [3] (fun t wr => ∃ i : Nat, t = .int .i64 i ∧ i ≤ l.length ∧ r = rightR (l.take i) (l.drop i) ∧ Quiet0 w wr) (fun t _ => l.length - (intOf t).toNat)
  case atStart => exact ⟨0, rfl, Nat.zero_le _, HR.out, Quiet0.refl _⟩
  case round =>
    obtain ⟨i, rfl, hi, hrr, hq⟩ := hrel
    have HRR := Lib.hid hrr
    have HQ := Lib.hid hq
    clear hrr hq
    by_cases hlt : i < l.length
    · have hlt' : (i : Int) < l.length := by omega
      obtain ⟨t, ht⟩ : ∃ t, l[i]? = some t := ⟨_, List.getElem?_eq_getElem hlt⟩
      have HCT := Lib.hid (counts_any l wr o cap i t ht (HS.out.stay HQ.out) hz)
      obtain ⟨b, off, o1, l1, c1, rfl, a0, a1, a2, a3, s1⟩ := HS.out.stay HQ.out i t ht
      have HN : Hid (r = (!hasB (l.take i) t.1 && ((decide (0 ≤ t.1) && decide (t.1 < 1073741824)) && rightT t.2.1 t.2.2.1 t.2.2.2) && rightR (l.take (i + 1)) (l.drop (i + 1)))) := by
        show _ = _
        rw [HRR.out, drop_some ht, rightR, List.take_add_one, ht]
        unfold rightQ
        rw [rightT_var]; rfl
      have HRT := Lib.hid (fun (W : World) (h : Quiet0 wr W) => refRight_any t.2.1 t.2.2.1 t.2.2.2 W o1 l1 c1 (s1.stay h))
      unfold tyv at HRT
      generalize hasB (l.take i) t.1 = hb at *
      generalize rightT t.2.1 t.2.2.1 t.2.2.2 = rt at *
      generalize t.1 = v at *
      generalize t.2.1 = k at *
      generalize t.2.2.1 = n at *
      clear ht s1
      go_wp2_with fail
      refine HCT.out.mono ?_; rintro e w1 ⟨rfl, hq1⟩
      have HQ1 := Lib.hid hq1
      have b0 := hq1.at a0
      have b1 := hq1.at a1
      have b2 := hq1.at a2
      have b3 := hq1.at a3
      clear hq1 a0 a1 a2 a3
      cases hb
      · by_cases h0 : v < 0
        · have HY : Hid (r = false) := by show _ = _; rw [HN.out]; simp; omega
          go_wp2_with fail
          go_ret
          exact ⟨by rw [HY.out]; rfl, HQ.out.trans HQ1.out⟩
        · by_cases h1 : 1073741824 ≤ v
          · have HY : Hid (r = false) := by show _ = _; rw [HN.out]; simp; omega
            go_wp2_with fail
            go_ret
            exact ⟨by rw [HY.out]; rfl, HQ.out.trans HQ1.out⟩
          · have HY : Hid (r = (rt && rightR (l.take (i + 1)) (l.drop (i + 1)))) := by
              show _ = _
              have e1 : decide (0 ≤ v) = true := by simp; omega
              have e2 : decide (v < 1073741824) = true := by simp; omega
              rw [HN.out, e1, e2]; simp
            go_wp2_with fail
            refine (HRT.out _ HQ1.out).mono ?_; rintro e w2 ⟨rfl, hq2⟩
            have HQ2 := Lib.hid ((HQ.out.trans HQ1.out).trans hq2)
            clear hq2
            cases rt
            · go_wp2_with fail
              go_ret
              exact ⟨by rw [HY.out]; rfl, HQ2.out⟩
            · go_wp2_with fail
              go_roundw
              case rel => exact ⟨i + 1, by go_num, by omega, HY.out, HQ2.out⟩
              case measure => simp [intOf]; omega
      · have HY : Hid (r = false) := by show _ = _; rw [HN.out]; simp
        go_wp2_with fail
        go_ret
        exact ⟨by rw [HY.out]; rfl, HQ.out.trans HQ1.out⟩
    · have hlt' : ¬ (i : Int) < l.length := by omega
      have HY : Hid (r = true) := by show _ = _; rw [HRR.out, List.drop_of_length_le (by omega)]; rfl
      go_wp2_with fail
      go_ret
      exact ⟨by rw [HY.out]; rfl, HQ.out⟩
/-- does a variable of a bind's type stand for something -/
def solvedP (l : List Bd) (t : Bd) : Bool := (Fo.vars [] (.cons t.2.1 t.2.2.1 t.2.2.2 .nil)).any (hasB l)
def solvedB (l : List Bd) : Bool := !(firstB l).any (solvedP l)
set_option maxHeartbeats 4000000 in
set_option maxRecDepth 100000 in
theorem suRefSolved_any (l : List Bd) (w : World) (o : Option Addr) (cap : Nat) (hs : BindsAt w o l) (hz : l.length ≤ 100000) (hl : ∀ t ∈ l, t.2.2.2.size ≤ 1000) :
    Calls Tryd.prog 62 #[.slice o l.length cap] w fun e w' => e = .returned (.bool (solvedB l)) ∧ Quiet0 w w' := by
  have HS := Lib.hid hs
  have HL := Lib.hid hl
  unfold solvedB
  rw [firstB_any]
  obtain ⟨r, hr⟩ : ∃ r, r = !anyC (solvedP l) [] l := ⟨_, rfl⟩
  have HR := Lib.hid hr
  rw [← hr]
  clear hs hl hr
  go_enter Tryd.func62, Tryd.ntmps62
  go_wp2_with fail
  go_loopw [3, 4, 5] (fun t _ _ wr => ∃ i : Nat, t = .int .i64 i ∧ i ≤ l.length ∧ r = !anyC (solvedP l) (l.take i) (l.drop i) ∧ Quiet0 w wr) (fun t _ _ _ => l.length - (intOf t).toNat)
  case atStart => exact ⟨0, rfl, Nat.zero_le _, HR.out, Quiet0.refl _⟩
  case round =>
    obtain ⟨i, rfl, hi, hrr, hq⟩ := hrel
    have HRR := Lib.hid hrr
    have HQ := Lib.hid hq
    clear hrr hq
    by_cases hlt : i < l.length
    · have hlt' : (i : Int) < l.length := by omega
      obtain ⟨t, ht⟩ : ∃ t, l[i]? = some t := ⟨_, List.getElem?_eq_getElem hlt⟩
      have hlz := HL.out t (List.mem_of_getElem? ht)
      obtain ⟨L, hL⟩ : ∃ L, L = Fo.vars [] (.cons t.2.1 t.2.2.1 t.2.2.2 .nil) := ⟨_, rfl⟩
      have hll : L.length ≤ 2000 := by rw [hL]; have := vars_len (.cons t.2.1 t.2.2.1 t.2.2.2 .nil) []; simp only [Fo.size, List.length_nil] at this; omega
      have HCT := Lib.hid (fun (W : World) (h : Quiet0 w W) => counts_any l W o cap i t ht (HS.out.stay h) hz)
      have HFI := Lib.hid (fun (W : World) (v : Int) (h : Quiet0 w W) => find_any l W o cap v (HS.out.stay h) (by omega))
      obtain ⟨b, off, o1, l1, c1, rfl, a0, a1, a2, a3, s1⟩ := HS.out.stay HQ.out i t ht
      have HRV : Hid (Calls Tryd.prog 43 #[.agg #[.int .i64 t.2.1, .int .i64 t.2.2.1, .slice o1 l1 c1], .slice none 0 0] wr fun e w' => ∃ a c, e = .returned (.slice a L.length c) ∧ IntsAt w' a L ∧ Quiet0 wr w') := by
        refine (refVars_any t.2.1 t.2.2.1 t.2.2.2 wr o1 l1 c1 (.slice none 0 0) [] s1 ⟨none, 0, rfl, fun i x h => by simp at h⟩ (by simp; omega)).mono ?_
        rintro e w' ⟨vo, rfl, ⟨a, c, rfl, h1⟩, h2⟩
        rw [← hL] at h1
        rw [← hL]
        exact ⟨a, c, rfl, h1, h2⟩
      have HN : Hid (r = !((!hasB (l.take i) t.1 && L.any (hasB l)) || anyC (solvedP l) (l.take (i + 1)) (l.drop (i + 1)))) := by
        show _ = _
        rw [HRR.out, drop_some ht, anyC, List.take_add_one, ht, hL]; rfl
      generalize hasB (l.take i) t.1 = hb at *
      obtain ⟨rest, hrest⟩ : ∃ rest, rest = anyC (solvedP l) (l.take (i + 1)) (l.drop (i + 1)) := ⟨_, rfl⟩
      rw [← hrest] at HN
      have HREST := Lib.hid hrest
      generalize t.1 = v at *
      generalize t.2.1 = k at *
      generalize t.2.2.1 = n at *
      clear ht s1 hL hrest
      go_wp2_with fail
      refine HRV.out.mono ?_; rintro e w1 ⟨va, vc, rfl, hia, hq1⟩
      have HQ1 := Lib.hid (HQ.out.trans hq1)
      have HIA := Lib.hid hia
      clear hq1 hia a0 a1 a2 a3
      go_wp2_with fail
      go_loopw [5] (fun t wx => ∃ j : Nat, t = .int .i64 j ∧ j ≤ L.length ∧ r = !((!hb && (L.drop j).any (hasB l)) || rest) ∧ Quiet0 w1 wx) (fun t _ => L.length - (intOf t).toNat)
      case atStart => exact ⟨0, rfl, Nat.zero_le _, HN.out, Quiet0.refl _⟩
      case round =>
        obtain ⟨j, rfl, hj, hrj, hqj⟩ := hrel
        have HRJ := Lib.hid hrj
        have HQJ := Lib.hid hqj
        clear hrj hqj
        by_cases hlj : j < L.length
        · have hlj' : (j : Int) < L.length := by omega
          obtain ⟨x, hx⟩ : ∃ x, L[j]? = some x := ⟨_, List.getElem?_eq_getElem hlj⟩
          obtain ⟨bb, offb, rfl, e0⟩ := HIA.out.stay HQJ.out j x hx
          have HM : Hid (r = !((!hb && (hasB l x || (L.drop (j + 1)).any (hasB l))) || rest)) := by
            show _ = _
            rw [HRJ.out, drop_some hx]; rfl
          have HX := Lib.hid (has_find l x)
          clear hx
          go_wp2_with fail
          refine (HCT.out _ (HQ1.out.trans HQJ.out)).mono ?_; rintro e w2 ⟨rfl, hq2⟩
          have f0 := hq2.at e0
          have HQ2 := Lib.hid (HQJ.out.trans hq2)
          clear hq2 e0
          cases hb
          · go_wp2_with fail
            refine (HFI.out _ x (HQ1.out.trans HQ2.out)).mono ?_; rintro e w3 ⟨rfl, hq3⟩
            have HQ3 := Lib.hid (HQ2.out.trans hq3)
            clear hq3 f0
            generalize idxB x l 0 = ix at *
            cases hh : hasB l x
            · rw [hh] at HM HX
              have hneg : ¬ 0 ≤ ix := by have := HX.out; simpa using this
              have hneg2 : ix < 0 := by omega
              go_wp2_with fail
              go_roundw
              case rel => exact ⟨j + 1, by go_num, by omega, by rw [HM.out]; rfl, HQ3.out⟩
              case measure => simp [intOf]; omega
            · rw [hh] at HM HX
              have hpos : 0 ≤ ix := by have := HX.out; simpa using this
              go_wp2_with fail
              go_ret
              exact ⟨by rw [HM.out]; rfl, HQ1.out.trans HQ3.out⟩
          · have HY : Hid (r = !rest) := by show _ = _; rw [HM.out]; rfl
            go_wp2_with fail
            go_roundw
            case rel => exact ⟨i + 1, by go_num, by omega, by rw [HY.out, HREST.out], HQ1.out.trans HQ2.out⟩
            case measure => simp [intOf]; omega
        · have hlj' : ¬ (j : Int) < L.length := by omega
          have HY : Hid (r = !rest) := by show _ = _; rw [HRJ.out, List.drop_of_length_le (by omega)]; simp
          go_wp2_with fail
          go_roundw
          case rel => exact ⟨i + 1, by go_num, by omega, by rw [HY.out, HREST.out], HQ1.out.trans HQJ.out⟩
          case measure => simp [intOf]; omega
    · have hlt' : ¬ (i : Int) < l.length := by omega
      have HY : Hid (r = true) := by show _ = _; rw [HRR.out, List.drop_of_length_le (by omega)]; rfl
      go_wp2_with fail
      go_ret
      exact ⟨by rw [HY.out]; rfl, HQ.out⟩
end Go.Proofs.YtggidhgifaekbaaDoor
/-
  slices.IndexFunc, ContainsFunc, Index and Contains on numbers. Conditions: the numbers lie in memory as told.
-/
namespace Go.Proofs.YtggidhgifaekbaaDoor
open Go.RowKit

def idxI (p : Int → Bool) : List Int → Nat → Int
  | [], _ => -1
  | t :: r, i => if p t then i else idxI p r (i + 1)
theorem idxI_any (p : Int → Bool) : ∀ (l : List Int) (i : Nat), decide (0 ≤ idxI p l i) = l.any p
  | [], i => rfl
  | t :: r, i => by
    unfold idxI
    rw [List.any_cons]
    cases h : p t
    · simp only [Bool.false_eq_true, if_false, Bool.false_or]; exact idxI_any p r (i + 1)
    · simp
theorem inB_any (v : Int) : ∀ l : List Int, inB l v = l.any (fun t => v == t)
  | [] => rfl
  | a :: r => by rw [inB_cons, List.any_cons, inB_any v r]
def PredI (g : Nat) (lb : Array Value) (w0 : World) (l : List Int) (p : Int → Bool) : Prop := ∀ t ∈ l, ∀ (W : World), Quiet0 w0 W → Calls Tryd.prog g (#[.int .i64 t] ++ lb) W fun e W' => e = .returned (.bool (p t)) ∧ Quiet0 W W'
set_option maxHeartbeats 1000000 in
theorem indexI_any (g : Nat) (lb : Array Value) (p : Int → Bool) (eg : ∀ args w, (callFunc g args).run Tryd.prog w = .ok (.enter g args) w) (l : List Int) (o : Option Addr) (cap : Nat) (w : World) (hs : IntsAt w o l) (hp : PredI g lb w l p) (hz : l.length ≤ 1000000) :
    Calls Tryd.prog 120 #[.slice o l.length cap, .func (.func g) #[] lb] w fun e w' => e = .returned (.int .i64 (idxI p l 0)) ∧ Quiet0 w w' := by
  have HS := Lib.hid hs
  have HP := Lib.hid hp
  clear hs hp
  obtain ⟨res, hres⟩ : ∃ res, res = idxI p l 0 := ⟨_, rfl⟩
  have HR := Lib.hid hres
  rw [← hres]
  clear hres
  go_enter Tryd.func120, Tryd.ntmps120
  go_wp2_with fail
  go_loopw [8] (fun t wr => ∃ i : Nat, t = .int .i64 i ∧ i ≤ l.length ∧ res = idxI p (l.drop i) i ∧ Quiet0 w wr) (fun t _ => l.length - (intOf t).toNat)
  case atStart => exact ⟨0, rfl, Nat.zero_le _, HR.out, Quiet0.refl _⟩
  case round =>
    obtain ⟨i, rfl, hi, hr, hq⟩ := hrel
    have HRR := Lib.hid hr
    have HQ := Lib.hid hq
    clear hr hq
    by_cases hlt : i < l.length
    · have hlt' : (i : Int) < l.length := by omega
      obtain ⟨t, ht⟩ : ∃ t, l[i]? = some t := ⟨_, List.getElem?_eq_getElem hlt⟩
      obtain ⟨b, off, rfl, a0⟩ := HS.out.stay HQ.out i t ht
      have HN : Hid (res = if p t then (i : Int) else idxI p (l.drop (i + 1)) (i + 1)) := by
        show _ = _
        rw [HRR.out, drop_some ht]; rfl
      have HC := Lib.hid (HP.out t (List.mem_of_getElem? ht) wr HQ.out)
      clear ht
      cases hb : p t
      all_goals
        rw [hb] at HC HN
        clear hb
        go_wp2_with fail
        refine HC.out.mono ?_; rintro e w1 ⟨rfl, hq1⟩
        have HQ1 := Lib.hid (HQ.out.trans hq1)
        clear hq1
        go_wp2_with fail
      · go_roundw
        case rel => exact ⟨i + 1, by go_num, by omega, HN.out, HQ1.out⟩
        case measure => simp [intOf]; omega
      · go_ret
        exact ⟨by rw [HN.out]; rfl, HQ1.out⟩
    · have hlt' : ¬ (i : Int) < l.length := by omega
      have HY : Hid (res = -1) := by show _ = _; rw [HRR.out, List.drop_of_length_le (by omega)]; rfl
      go_wp2_with fail
      go_ret
      exact ⟨by rw [HY.out]; rfl, HQ.out⟩
theorem containsI_any (g : Nat) (lb : Array Value) (p : Int → Bool) (eg : ∀ args w, (callFunc g args).run Tryd.prog w = .ok (.enter g args) w) (l : List Int) (o : Option Addr) (cap : Nat) (w : World) (hs : IntsAt w o l) (hp : PredI g lb w l p) (hz : l.length ≤ 1000000) :
    Calls Tryd.prog 96 #[.slice o l.length cap, .func (.func g) #[] lb] w fun e w' => e = .returned (.bool (l.any p)) ∧ Quiet0 w w' := by
  have HC := Lib.hid (indexI_any g lb p eg l o cap w hs hp hz)
  rw [← idxI_any p l 0]
  clear hs hp eg
  generalize idxI p l 0 = r at *
  go_enter Tryd.func96, Tryd.ntmps96
  go_wp2_with fail
  refine HC.out.mono ?_; rintro e w1 ⟨rfl, hq⟩
  go_wp2_with fail
  go_ret
  exact ⟨rfl, hq⟩
set_option maxHeartbeats 1000000 in
theorem indexV_any (v : Int) (l : List Int) (o : Option Addr) (cap : Nat) (w : World) (hs : IntsAt w o l) (hz : l.length ≤ 1000000) :
    Calls Tryd.prog 122 #[.slice o l.length cap, .int .i64 v] w fun e w' => e = .returned (.int .i64 (idxI (fun t => v == t) l 0)) ∧ Quiet0 w w' := by
  have HS := Lib.hid hs
  clear hs
  obtain ⟨res, hres⟩ : ∃ res, res = idxI (fun t => v == t) l 0 := ⟨_, rfl⟩
  have HR := Lib.hid hres
  rw [← hres]
  clear hres
  go_enter Tryd.func122, Tryd.ntmps122
  go_wp2_with fail
  go_loopw [8] (fun t wr => ∃ i : Nat, t = .int .i64 i ∧ i ≤ l.length ∧ res = idxI (fun t => v == t) (l.drop i) i ∧ Quiet0 w wr) (fun t _ => l.length - (intOf t).toNat)
  case atStart => exact ⟨0, rfl, Nat.zero_le _, HR.out, Quiet0.refl _⟩
  case round =>
    obtain ⟨i, rfl, hi, hr, hq⟩ := hrel
    have HRR := Lib.hid hr
    have HQ := Lib.hid hq
    clear hr hq
    by_cases hlt : i < l.length
    · have hlt' : (i : Int) < l.length := by omega
      obtain ⟨t, ht⟩ : ∃ t, l[i]? = some t := ⟨_, List.getElem?_eq_getElem hlt⟩
      obtain ⟨b, off, rfl, a0⟩ := HS.out.stay HQ.out i t ht
      have HN : Hid (res = if v == t then (i : Int) else idxI (fun t => v == t) (l.drop (i + 1)) (i + 1)) := by
        show _ = _
        rw [HRR.out, drop_some ht]; rfl
      clear ht
      cases hb : (v == t)
      all_goals rw [hb] at HN
      · have hb2 : ¬ v = t := by simpa using hb
        go_wp2_with fail
        go_roundw
        case rel => exact ⟨i + 1, by go_num, by omega, HN.out, HQ.out⟩
        case measure => simp [intOf]; omega
      · have hb2 : v = t := by simpa using hb
        subst hb2
        go_wp2_with fail
        go_ret
        exact ⟨by rw [HN.out]; rfl, HQ.out⟩
    · have hlt' : ¬ (i : Int) < l.length := by omega
      have HY : Hid (res = -1) := by show _ = _; rw [HRR.out, List.drop_of_length_le (by omega)]; rfl
      go_wp2_with fail
      go_ret
      exact ⟨by rw [HY.out]; rfl, HQ.out⟩
theorem containsV_any (v : Int) (l : List Int) (o : Option Addr) (cap : Nat) (w : World) (hs : IntsAt w o l) (hz : l.length ≤ 1000000) :
    Calls Tryd.prog 106 #[.slice o l.length cap, .int .i64 v] w fun e w' => e = .returned (.bool (inB l v)) ∧ Quiet0 w w' := by
  have HC := Lib.hid (indexV_any v l o cap w hs hz)
  have e : inB l v = decide (0 ≤ idxI (fun t => v == t) l 0) := by rw [idxI_any, inB_any]
  rw [e]
  clear hs e
  generalize idxI (fun t => v == t) l 0 = r at *
  go_enter Tryd.func106, Tryd.ntmps106
  go_wp2_with fail
  refine HC.out.mono ?_; rintro e w1 ⟨rfl, hq⟩
  go_wp2_with fail
  go_ret
  exact ⟨rfl, hq⟩
end Go.Proofs.YtggidhgifaekbaaDoor
