/-
  Does a substitution solve equations: the reference. Conditions: the binds and the equations lie in memory as told; they are small.
-/
import Derived.Test.YtggidhgifaekbaaDoorSuSolves
namespace Go.Proofs.YtggidhgifaekbaaDoor
open Go.RowKit Go.Maps

/-- the reference's Apply on a type that lies in memory -/
theorem refApply_of (w0 : World) (a : Option Addr) (c : Nat) (l : List Bd) (hb : BindsAt w0 a l) (hll : l.length ≤ 1000000) (k n : Int) (ps : Fo) (hz : ps.size ≤ 1000000) (k' n' : Int) (ps' : Fo) (e1 : sK l k n = k') (e2 : sN l k n = n') (e3 : sP l k n ps = ps')
    (W : World) (hq : Quiet0 w0 W) (o : Option Addr) (len cap : Nat) (hs : Slc W o len ps) :
    Calls Tryd.prog 59 #[.slice a l.length c, .agg #[.int .i64 k, .int .i64 n, .slice o len cap]] W fun e w' => ∃ o' len' cap', e = .returned (.agg #[.int .i64 k', .int .i64 n', .slice o' len' cap']) ∧ Slc w' o' len' ps' ∧ Quiet0 W w' := by
  subst e1 e2 e3
  refine (refApply_any w0 a c l hb hll k n ps W o len cap hq hs hz).mono ?_
  rintro e w' ⟨o', len', cap', rfl, h1, h2⟩
  exact ⟨o', len', cap', rfl, h1.slc, h2⟩
set_option maxHeartbeats 4000000 in
set_option maxRecDepth 100000 in
theorem refSolves_any (l : List Bd) (es : List Eqn) (w : World) (o : Option Addr) (cap : Nat) (oe : Option Addr) (cape : Nat) (hs : BindsAt w o l) (he : EqsAt w oe es) (hz : l.length ≤ 100000) (hze : es.length ≤ 100000)
    (hes : ∀ t ∈ es, t.1.2.2.size ≤ 1000000 ∧ t.2.1.2.2.size ≤ 1000000) :
    Calls Tryd.prog 42 #[.slice o l.length cap, .slice oe es.length cape] w fun e w' => e = .returned (.bool (es.all (eqP l))) ∧ Quiet0 w w' := by
  have HS := Lib.hid hs
  have HE := Lib.hid he
  have HES := Lib.hid hes
  obtain ⟨r, hr⟩ : ∃ r, r = es.all (eqP l) := ⟨_, rfl⟩
  have HR := Lib.hid hr
  rw [← hr]
  clear hs he hes hr
  go_enter Tryd.func42, Tryd.ntmps42
  go_wp2_with fail
  go_loopw [5] (fun t wr => ∃ i : Nat, t = .int .i64 i ∧ i ≤ es.length ∧ r = (es.drop i).all (eqP l) ∧ Quiet0 w wr) (fun t _ => es.length - (intOf t).toNat)
  case atStart => exact ⟨0, rfl, Nat.zero_le _, HR.out, Quiet0.refl _⟩
  case round =>
    obtain ⟨i, rfl, hi, hrr, hq⟩ := hrel
    have HRR := Lib.hid hrr
    have HQ := Lib.hid hq
    clear hrr hq
    by_cases hlt : i < es.length
    · have hlt' : (i : Int) < es.length := by omega
      obtain ⟨t, ht⟩ : ∃ t, es[i]? = some t := ⟨_, List.getElem?_eq_getElem hlt⟩
      obtain ⟨z1, z2⟩ := HES.out t (List.mem_of_getElem? ht)
      obtain ⟨b, off, o1, l1, c1, o2, l2, c2, rfl, a0, a1, a2, a3, a4, a5, a6, a7, s1, s2⟩ := HE.out.stay HQ.out i t ht
      have HN : Hid (r = (eqP l t && (es.drop (i + 1)).all (eqP l))) := by
        show _ = _
        rw [HRR.out, drop_some ht]; rfl
      have HA1 := Lib.hid (fun (W' : World) (h : Quiet0 wr W') => refApply_of w o cap l HS.out (by omega) t.1.1 t.1.2.1 t.1.2.2 z1 _ _ _ rfl rfl rfl W' (HQ.out.trans h) o1 l1 c1 (s1.stay h))
      have HA2 := Lib.hid (fun (W' : World) (h : Quiet0 wr W') => refApply_of w o cap l HS.out (by omega) t.2.1.1 t.2.1.2.1 t.2.1.2.2 z2 _ _ _ rfl rfl rfl W' (HQ.out.trans h) o2 l2 c2 (s2.stay h))
      unfold eqP at HN
      generalize sK l t.1.1 t.1.2.1 = k1 at *
      generalize sN l t.1.1 t.1.2.1 = n1' at *
      generalize sP l t.1.1 t.1.2.1 t.1.2.2 = p1 at *
      generalize sK l t.2.1.1 t.2.1.2.1 = k2 at *
      generalize sN l t.2.1.1 t.2.1.2.1 = n2' at *
      generalize sP l t.2.1.1 t.2.1.2.1 t.2.1.2.2 = p2 at *
      have HSM := Lib.hid (fun (W' : World) oa la ca ob lb cb (ha : Slc W' oa la p1) (hb : Slc W' ob lb p2) => refSame_any k1 n1' p1 k2 n2' p2 W' oa la ca ob lb cb ha hb)
      unfold tyv at HSM
      generalize sameT k1 n1' p1 k2 n2' p2 = sm at *
      generalize t.1.1 = ka at *
      generalize t.1.2.1 = na at *
      generalize t.2.1.1 = kb at *
      generalize t.2.1.2.1 = nb at *
      have HBC : Hid (∀ w', Quiet0 wr w' → (w'.cell? ⟨b, off + i * 8, none⟩ = some (.int .i64 ka) ∧ w'.cell? ⟨b, off + i * 8 + 1, none⟩ = some (.int .i64 na) ∧ w'.cell? ⟨b, off + i * 8 + 2, none⟩ = some (.slice o1 l1 c1)) ∧ w'.cell? ⟨b, off + i * 8 + 3, none⟩ = some (.int .i64 kb) ∧ w'.cell? ⟨b, off + i * 8 + 3 + 1, none⟩ = some (.int .i64 nb) ∧ w'.cell? ⟨b, off + i * 8 + 3 + 2, none⟩ = some (.slice o2 l2 c2)) := fun W h => ⟨⟨h.at a0, h.at a1, h.at a2⟩, h.at a3, h.at a4, h.at a5⟩
      clear ht z1 z2 a0 a1 a2 a3 a4 a5 a6 a7 s1 s2
      have hqc := Quiet0.refl wr
      obtain ⟨⟨a1, a2, a3⟩, a4, a5, a6⟩ := HBC.out wr hqc
      go_wp2_with fail
      go_region_held3 (fun w' => (w'.cell? ⟨b, off + i * 8, none⟩ = some (.int .i64 ka) ∧ w'.cell? ⟨b, off + i * 8 + 1, none⟩ = some (.int .i64 na) ∧ w'.cell? ⟨b, off + i * 8 + 2, none⟩ = some (.slice o1 l1 c1)) ∧ w'.cell? ⟨b, off + i * 8 + 3, none⟩ = some (.int .i64 kb) ∧ w'.cell? ⟨b, off + i * 8 + 3 + 1, none⟩ = some (.int .i64 nb) ∧ w'.cell? ⟨b, off + i * 8 + 3 + 2, none⟩ = some (.slice o2 l2 c2))
        (((refine HBC.out _ ?_); (repeat (first | with_reducible exact hqc | with_reducible exact Quiet0.refl _ | with_reducible refine Quiet0.trans ?_ (Quiet0.alloc _ _) | with_reducible refine Quiet0.trans ?_ (Quiet0.drew _) | fail))))
        (first
          | (go_at_call 59; (with_reducible refine Calls.mono (HA1.out _ ?hq) ?_); (case hq => (repeat (first | with_reducible exact hqc | with_reducible exact Quiet0.refl _ | with_reducible refine Quiet0.trans ?_ (Quiet0.alloc _ _) | with_reducible refine Quiet0.trans ?_ (Quiet0.drew _) | fail))); rintro e wx ⟨oa, la, ca, rfl, hsa, hqx⟩; (try (refine with_st hsb ?hq3 hqx ?_; (case hq3 => (repeat (first | with_reducible exact Quiet0.refl _ | with_reducible refine Quiet0.trans ?_ (Quiet0.alloc _ _) | with_reducible refine Quiet0.trans ?_ (Quiet0.drew _) | fail))); intro hsb)); (refine with_q (w0 := wr) ?hq2 hqx ?_); (case hq2 => (repeat (first | with_reducible exact hqc | with_reducible exact Quiet0.refl _ | with_reducible refine Quiet0.trans ?_ (Quiet0.alloc _ _) | with_reducible refine Quiet0.trans ?_ (Quiet0.drew _) | fail))); intro hqc)
          | (go_at_call 59; (with_reducible refine Calls.mono (HA2.out _ ?hq) ?_); (case hq => (repeat (first | with_reducible exact hqc | with_reducible exact Quiet0.refl _ | with_reducible refine Quiet0.trans ?_ (Quiet0.alloc _ _) | with_reducible refine Quiet0.trans ?_ (Quiet0.drew _) | fail))); rintro e wx ⟨ob, lb, cb, rfl, hsb, hqx⟩; (try (refine with_st hsa ?hq3 hqx ?_; (case hq3 => (repeat (first | with_reducible exact Quiet0.refl _ | with_reducible refine Quiet0.trans ?_ (Quiet0.alloc _ _) | with_reducible refine Quiet0.trans ?_ (Quiet0.drew _) | fail))); intro hsa)); (refine with_q (w0 := wr) ?hq2 hqx ?_); (case hq2 => (repeat (first | with_reducible exact hqc | with_reducible exact Quiet0.refl _ | with_reducible refine Quiet0.trans ?_ (Quiet0.alloc _ _) | with_reducible refine Quiet0.trans ?_ (Quiet0.drew _) | fail))); intro hqc)
          | (go_at_call 19; (with_reducible refine Calls.mono (HSM.out _ _ _ _ _ _ _ (hsa.stay ?h1) (hsb.stay ?h2)) ?_); ((case h1 => (repeat (first | with_reducible exact Quiet0.refl _ | with_reducible refine Quiet0.trans ?_ (Quiet0.alloc _ _) | with_reducible refine Quiet0.trans ?_ (Quiet0.drew _) | fail))); (case h2 => (repeat (first | with_reducible exact Quiet0.refl _ | with_reducible refine Quiet0.trans ?_ (Quiet0.alloc _ _) | with_reducible refine Quiet0.trans ?_ (Quiet0.drew _) | fail)))); rintro e wx ⟨rfl, hqx⟩; (refine with_q (w0 := wr) ?hq2 hqx ?_); (case hq2 => (repeat (first | with_reducible exact hqc | with_reducible exact Quiet0.refl _ | with_reducible refine Quiet0.trans ?_ (Quiet0.alloc _ _) | with_reducible refine Quiet0.trans ?_ (Quiet0.drew _) | fail))); intro hqc)
          | fail)
      all_goals
        clear hsa hsb a1 a2 a3 a4 a5 a6
        have HQ1 := Lib.hid (HQ.out.trans hqc)
        clear hqc
        cases sm
        · go_wp2_with fail
          go_ret
          exact ⟨by rw [HN.out]; rfl, HQ1.out⟩
        · go_wp2_with fail
          go_roundw
          case rel => exact ⟨i + 1, by go_num, by omega, HN.out, HQ1.out⟩
          case measure => simp [intOf]; omega
    · have hlt' : ¬ (i : Int) < es.length := by omega
      have HY : Hid (r = true) := by show _ = _; rw [HRR.out, List.drop_of_length_le (by omega)]; rfl
      go_wp2_with fail
      go_ret
      exact ⟨by rw [HY.out]; rfl, HQ.out⟩
end Go.Proofs.YtggidhgifaekbaaDoor
