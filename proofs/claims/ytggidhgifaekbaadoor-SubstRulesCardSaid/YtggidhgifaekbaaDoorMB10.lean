/-
  Texts laid together (SuAlike, SuGreat, SuThenLaw, Law, TyOpen): what each one proves, and its conditions, stands at its head.
-/
import Derived.BigQuiet
import Derived.ProofKit
import Derived.OpenShut
import Derived.Deep.Slices
import Derived.Test.YtggidhgifaekbaaDoorRows
import Derived.Test.YtggidhgifaekbaaDoorMB1
import Derived.Test.YtggidhgifaekbaaDoorMB2
import Derived.Test.YtggidhgifaekbaaDoorMB3
import Derived.Test.YtggidhgifaekbaaDoorMB4
import Derived.Test.YtggidhgifaekbaaDoorMB5
import Derived.Test.YtggidhgifaekbaaDoorMB6
import Derived.Test.YtggidhgifaekbaaDoorMB7
import Derived.Test.YtggidhgifaekbaaDoorMB8
import Derived.Test.YtggidhgifaekbaaDoorMB9
/-
  The program's Alike. Conditions: the rows lie in memory as told; numbers are in range; all is small.
-/
namespace Go.Proofs.YtggidhgifaekbaaDoor
open Go.RowKit Go.Maps

/-- do two substitutions do the same to a variable -/
def likeP (a b : List Bd) (v : Int) : Bool := sameT (sK a 1 v) (sN a 1 v) (sP a 1 v .nil) (sK b 1 v) (sN b 1 v) (sP b 1 v .nil)
theorem eg_alike : ∀ args w, (callFunc 97 args).run Tryd.prog w = .ok (.enter 97 args) w := enters_of Tryd.func97 (by kernel_rfl) rfl
set_option maxHeartbeats 4000000 in
set_option maxRecDepth 100000 in
theorem alike1_any (la lb : List Bd) (hla : ∀ t ∈ la, t.2.2.2.size ≤ 1000000) (hlb : ∀ t ∈ lb, t.2.2.2.size ≤ 1000000) (w0 : World) (ca cb ba ma bb mb : Nat) (qa qb : Int → Option Value)
    (h1 : Box1 w0 ca (.map (some ba)) 94) (h2 : MapT w0 ba ma qa) (h3 : TabAt w0 qa (findB la)) (g1 : Box1 w0 cb (.map (some bb)) 94) (g2 : MapT w0 bb mb qb) (g3 : TabAt w0 qb (findB lb)) (L : List Int) (hL : ∀ v ∈ L, wfI v) :
    PredI 97 #[.pointer (some ⟨ca, 0, none⟩), .pointer (some ⟨cb, 0, none⟩)] w0 L (fun v => !likeP la lb v) := by
  intro v hv W hq
  show Calls _ _ _ W fun e W' => e = .returned (.bool (!likeP la lb v)) ∧ Quiet0 W W'
  have HA1 := Lib.hid (fun (W' : World) (h : Quiet0 W W') => apply_of la hla 1 v .nil (by simp [Fo.size]) (hL v hv) trivial _ _ _ rfl rfl rfl W' none 0 0 ba ma qa (h2.stay (hq.trans h)) (h3.stay (hq.trans h)) (Slc.nil _ _))
  have HA2 := Lib.hid (fun (W' : World) (h : Quiet0 W W') => apply_of lb hlb 1 v .nil (by simp [Fo.size]) (hL v hv) trivial _ _ _ rfl rfl rfl W' none 0 0 bb mb qb (g2.stay (hq.trans h)) (g3.stay (hq.trans h)) (Slc.nil _ _))
  have HV := Lib.hid (fun (W : World) => var_any v W)
  unfold likeP
  generalize sK la 1 v = k1 at *
  generalize sN la 1 v = n1 at *
  generalize sP la 1 v .nil = p1 at *
  generalize sK lb 1 v = k2 at *
  generalize sN lb 1 v = n2 at *
  generalize sP lb 1 v .nil = p2 at *
  have HSM := Lib.hid (fun (W' : World) oa la ca ob lb cb (ha : Slc W' oa la p1) (hb : Slc W' ob lb p2) => same_any k1 n1 p1 k2 n2 p2 W' oa la ca ob lb cb ha hb)
  unfold tyv at HSM HV
  generalize sameT k1 n1 p1 k2 n2 p2 = sm at *
  have HC : Hid (∀ w', Quiet0 W w' → w'.cell? ⟨ca, 0, none⟩ = some (.map (some ba)) ∧ w'.cell? ⟨cb, 0, none⟩ = some (.map (some bb))) := fun W' h => ⟨cell_of_one ((h1.fr hq (fun h => h)).fr h (fun h => h)), cell_of_one ((g1.fr hq (fun h => h)).fr h (fun h => h))⟩
  clear h1 h2 h3 g1 g2 g3 hL hv hla hlb hq
  have hqc := Quiet0.refl W
  obtain ⟨a0, a1⟩ := HC.out W hqc
  go_enter Tryd.func97, Tryd.ntmps97
  go_wp2_with fail
  go_region_held3 (fun w' => w'.cell? ⟨ca, 0, none⟩ = some (.map (some ba)) ∧ w'.cell? ⟨cb, 0, none⟩ = some (.map (some bb)))
    (((refine HC.out _ ?_); (repeat (first | with_reducible exact hqc | with_reducible exact Quiet0.refl _ | with_reducible refine Quiet0.trans ?_ (Quiet0.alloc _ _) | with_reducible refine Quiet0.trans ?_ (Quiet0.drew _) | fail))))
    (first
      | (go_at_call 69; (with_reducible refine Calls.mono (HV.out _) ?_); rintro e wx ⟨rfl, hqx⟩; ((try (refine with_st hsa ?hq3 hqx ?_; (case hq3 => (repeat (first | with_reducible exact Quiet0.refl _ | with_reducible refine Quiet0.trans ?_ (Quiet0.alloc _ _) | with_reducible refine Quiet0.trans ?_ (Quiet0.drew _) | fail))); intro hsa)); (try (refine with_st hsb ?hq3 hqx ?_; (case hq3 => (repeat (first | with_reducible exact Quiet0.refl _ | with_reducible refine Quiet0.trans ?_ (Quiet0.alloc _ _) | with_reducible refine Quiet0.trans ?_ (Quiet0.drew _) | fail))); intro hsb))); (refine with_q (w0 := W) ?hq2 hqx ?_); (case hq2 => (repeat (first | with_reducible exact hqc | with_reducible exact Quiet0.refl _ | with_reducible refine Quiet0.trans ?_ (Quiet0.alloc _ _) | with_reducible refine Quiet0.trans ?_ (Quiet0.drew _) | fail))); intro hqc)
      | (go_at_call 88; (with_reducible refine Calls.mono (HA1.out _ ?hq) ?_); (case hq => (repeat (first | with_reducible exact hqc | with_reducible exact Quiet0.refl _ | with_reducible refine Quiet0.trans ?_ (Quiet0.alloc _ _) | with_reducible refine Quiet0.trans ?_ (Quiet0.drew _) | fail))); rintro e wx ⟨oa, la, ca, rfl, hsa, hqx⟩; (try (refine with_st hsb ?hq3 hqx ?_; (case hq3 => (repeat (first | with_reducible exact Quiet0.refl _ | with_reducible refine Quiet0.trans ?_ (Quiet0.alloc _ _) | with_reducible refine Quiet0.trans ?_ (Quiet0.drew _) | fail))); intro hsb)); (refine with_q (w0 := W) ?hq2 hqx ?_); (case hq2 => (repeat (first | with_reducible exact hqc | with_reducible exact Quiet0.refl _ | with_reducible refine Quiet0.trans ?_ (Quiet0.alloc _ _) | with_reducible refine Quiet0.trans ?_ (Quiet0.drew _) | fail))); intro hqc)
      | (go_at_call 88; (with_reducible refine Calls.mono (HA2.out _ ?hq) ?_); (case hq => (repeat (first | with_reducible exact hqc | with_reducible exact Quiet0.refl _ | with_reducible refine Quiet0.trans ?_ (Quiet0.alloc _ _) | with_reducible refine Quiet0.trans ?_ (Quiet0.drew _) | fail))); rintro e wx ⟨ob, lb, cb, rfl, hsb, hqx⟩; (try (refine with_st hsa ?hq3 hqx ?_; (case hq3 => (repeat (first | with_reducible exact Quiet0.refl _ | with_reducible refine Quiet0.trans ?_ (Quiet0.alloc _ _) | with_reducible refine Quiet0.trans ?_ (Quiet0.drew _) | fail))); intro hsa)); (refine with_q (w0 := W) ?hq2 hqx ?_); (case hq2 => (repeat (first | with_reducible exact hqc | with_reducible exact Quiet0.refl _ | with_reducible refine Quiet0.trans ?_ (Quiet0.alloc _ _) | with_reducible refine Quiet0.trans ?_ (Quiet0.drew _) | fail))); intro hqc)
      | (go_at_call 52; (with_reducible refine Calls.mono (HSM.out _ _ _ _ _ _ _ (hsa.stay ?h1) (hsb.stay ?h2)) ?_); ((case h1 => (repeat (first | with_reducible exact Quiet0.refl _ | with_reducible refine Quiet0.trans ?_ (Quiet0.alloc _ _) | with_reducible refine Quiet0.trans ?_ (Quiet0.drew _) | fail))); (case h2 => (repeat (first | with_reducible exact Quiet0.refl _ | with_reducible refine Quiet0.trans ?_ (Quiet0.alloc _ _) | with_reducible refine Quiet0.trans ?_ (Quiet0.drew _) | fail)))); rintro e wx ⟨rfl, hqx⟩; (refine with_q (w0 := W) ?hq2 hqx ?_); (case hq2 => (repeat (first | with_reducible exact hqc | with_reducible exact Quiet0.refl _ | with_reducible refine Quiet0.trans ?_ (Quiet0.alloc _ _) | with_reducible refine Quiet0.trans ?_ (Quiet0.drew _) | fail))); intro hqc)
      | fail)
  all_goals
    go_wp2_with fail
    go_ret
    exact ⟨rfl, hqc⟩
set_option maxHeartbeats 4000000 in
set_option maxRecDepth 100000 in
theorem suAlike_any (la lb : List Bd) (vars : List Int) (w : World) (oa : Option Addr) (capa : Nat) (ob : Option Addr) (capb : Nat) (ov : Option Addr) (capv : Nat) (hsa : BindsAt w oa la) (hsb : BindsAt w ob lb) (hv : IntsAt w ov vars) (hza : la.length ≤ 100000) (hzb : lb.length ≤ 100000) (hzv : vars.length ≤ 100000)
    (hwa : ∀ t ∈ la, t.2.2.2.size ≤ 1000000 ∧ wfI t.1) (hwb : ∀ t ∈ lb, t.2.2.2.size ≤ 1000000 ∧ wfI t.1) (hwv : ∀ v ∈ vars, wfI v) :
    Calls Tryd.prog 55 #[.slice oa la.length capa, .slice ob lb.length capb, .slice ov vars.length capv] w fun e w' => e = .returned (.bool (vars.all (likeP la lb))) ∧ Quiet0 w w' := by
  have HTA := Lib.hid (table_any la w oa capa hsa (fun t h => (hwa t h).2) hza)
  have HTB := Lib.hid (fun (W : World) (h : Quiet0 w W) => table_any lb W ob capb (hsb.stay h) (fun t h => (hwb t h).2) hzb)
  have HV := Lib.hid hv
  have HR : Hid (vars.all (likeP la lb) = !(vars.any (fun v => !likeP la lb v))) := by show _ = _; rw [List.not_any_eq_all_not]; simp
  rw [HR.out]
  have HCF := Lib.hid (fun (W : World) (h : Quiet0 w W) (ca cb ba ma bb mb : Nat) (qa qb : Int → Option Value) (h1 : Box1 W ca (.map (some ba)) 94) (h2 : MapT W ba ma qa) (h3 : TabAt W qa (findB la)) (g1 : Box1 W cb (.map (some bb)) 94) (g2 : MapT W bb mb qb) (g3 : TabAt W qb (findB lb)) =>
    containsI_any 97 #[.pointer (some ⟨ca, 0, none⟩), .pointer (some ⟨cb, 0, none⟩)] (fun v => !likeP la lb v) eg_alike vars ov capv W (hv.stay h) (alike1_any la lb (fun t h => (hwa t h).1) (fun t h => (hwb t h).1) W ca cb ba ma bb mb qa qb h1 h2 h3 g1 g2 g3 vars hwv) (by omega))
  generalize (vars.any (fun v => !likeP la lb v)) = r at *
  clear hsa hsb hv hwa hwb hwv HR
  go_enter Tryd.func55, Tryd.ntmps55
  go_wp2_with fail
  refine HTA.out.mono ?_; rintro e w1 ⟨ba, ma, qa, rfl, _, hm1, ht1, hq1⟩
  have HM1 := Lib.hid hm1
  have HT1 := Lib.hid ht1
  have HQ1 := Lib.hid hq1
  clear hm1 ht1 hq1
  go_wp2_with fail
  refine (HTB.out _ HQ1.out).mono ?_; rintro e w2 ⟨bb, mb, qb, rfl, _, hm2, ht2, hq2⟩
  have HM2 := Lib.hid hm2
  have HT2 := Lib.hid ht2
  have HQ2 := Lib.hid hq2
  clear hm2 ht2 hq2
  go_wp2_with fail
  have hqa := (Quiet0.alloc w2 (.cells #[.map (some ba)] 94)).trans (Quiet0.alloc (w2.alloc (.cells #[.map (some ba)] 94)) (.cells #[.map (some bb)] 94))
  have hb2 : Box1 ((w2.alloc (.cells #[.map (some ba)] 94)).alloc (.cells #[.map (some bb)] 94)) (w2.heap.size + 1) (.map (some bb)) 94 := by
    have h := Box1.new (w2.alloc (.cells #[.map (some ba)] 94)) (.map (some bb)) 94
    rw [show (w2.alloc (.cells #[.map (some ba)] 94)).heap.size = w2.heap.size + 1 from by simp] at h
    exact h
  refine (HCF.out _ ((HQ1.out.trans HQ2.out).trans hqa) w2.heap.size (w2.heap.size + 1) ba ma bb mb qa qb ((Box1.new w2 _ _).alloc _) (HM1.out.stay (HQ2.out.trans hqa)) (HT1.out.stay (HQ2.out.trans hqa)) hb2 (HM2.out.stay hqa) (HT2.out.stay hqa)).mono ?_
  rintro e w3 ⟨rfl, hq3⟩
  have HQ3 := Lib.hid (((HQ1.out.trans HQ2.out).trans hqa).trans hq3)
  clear hqa hb2 hq3
  go_wp2_with fail
  go_ret
  exact ⟨rfl, HQ3.out⟩
end Go.Proofs.YtggidhgifaekbaaDoor
/-
  The laws' Great and Greats of chapter 10. Conditions: the rows lie in memory as told.
-/
namespace Go.Proofs.YtggidhgifaekbaaDoor
open Go.RowKit Go.Maps

def Few10 (l : List Bd) : Prop := l.length ≤ 24 ∧ ∀ t ∈ l, t.2.2.2.size ≤ 300
def FewEq (l : List Eqn) : Prop := l.length ≤ 60 ∧ ∀ t ∈ l, t.1.2.2.size ≤ 300 ∧ t.2.1.2.2.size ≤ 300
/-- a bool; if it is false, something is so -/
def BoolIf (P : Prop) (w : World) (e : Ending) (w' : World) : Prop := ∃ g : Bool, e = .returned (.bool g) ∧ (g = false → P) ∧ Quiet0 w w'
set_option maxHeartbeats 2000000 in
set_option maxRecDepth 100000 in
theorem great10_any (l : List Bd) (w : World) (o : Option Addr) (cap : Nat) (hs : BindsAt w o l) (hz : l.length ≤ 9223372036854775807) :
    Calls Tryd.prog 38 #[.slice o l.length cap] w (BoolIf (Few10 l) w) := by
  have HS := Lib.hid hs
  clear hs
  go_enter Tryd.func38, Tryd.ntmps38
  go_wp2_with fail
  go_loopw [2, 3, 4] (fun _ s t wr => ∃ (i : Nat) (n : Int), t = .int .i64 i ∧ s = .int .i64 n ∧ i ≤ l.length ∧ i ≤ 30 ∧ 0 ≤ n ∧ n ≤ 300 * i ∧ (∀ t ∈ l.take i, t.2.2.2.size ≤ 300) ∧ Quiet0 w wr) (fun _ _ t _ => 30 - (intOf t).toNat)
  case atStart => exact ⟨0, 0, rfl, rfl, Nat.zero_le _, by omega, by omega, by omega, (fun t h => by simp at h), Quiet0.refl _⟩
  case round =>
    obtain ⟨i, n, rfl, rfl, hi, hi2, hn0, hn1, hal, hq⟩ := hrel
    have HAL := Lib.hid hal
    have HQ := Lib.hid hq
    clear hal hq
    by_cases hlt : i < l.length
    · have hlt' : (i : Int) < l.length := by omega
      by_cases h30 : i < 30
      · have h30' : (i : Int) < 30 := by omega
        obtain ⟨t, ht⟩ : ∃ t, l[i]? = some t := ⟨_, List.getElem?_eq_getElem hlt⟩
        obtain ⟨b, off, o1, l1, c1, rfl, a0, a1, a2, a3, s1⟩ := HS.out.stay HQ.out i t ht
        have HGR := Lib.hid (great_any t.2.1 t.2.2.1 t.2.2.2 wr o1 l1 c1 s1)
        have HSZ := Lib.hid (fun (W : World) (hq : Quiet0 wr W) (hz : t.2.2.2.size ≤ 1000000) => refSize_any t.2.1 t.2.2.1 t.2.2.2 W o1 l1 c1 (s1.stay hq) hz)
        have HNT : Hid (t.2.2.2.size ≤ 300 → ∀ u ∈ l.take (i + 1), u.2.2.2.size ≤ 300) := by
          intro hz u hu
          rw [List.take_add_one, ht] at hu
          rcases List.mem_append.1 hu with h | h
          · exact HAL.out u h
          · have : u = t := by simpa using h
            rw [this]; exact hz
        unfold tyv at HGR HSZ
        cases hg : greatF t.2.2.2
        · have hgz := great_size hg
          have HSZ2 := Lib.hid (fun (W : World) (hq : Quiet0 wr W) => HSZ.out W hq (by omega))
          have hs0 : (0 : Int) ≤ ((t.2.2.2.size + 1 : Nat) : Int) := by omega
          have hs1 : ((t.2.2.2.size + 1 : Nat) : Int) ≤ 300 := by omega
          have HNT2 := Lib.hid (HNT.out (by omega))
          rw [hg] at HGR
          generalize ((t.2.2.2.size + 1 : Nat) : Int) = sz at *
          generalize t.2.1 = k1 at *
          generalize t.2.2.1 = n1 at *
          have hw : IntKind.i64.wrap (n + sz) = n + sz := IntWalk.i64_in _ (by omega)
          clear hg hgz ht HSZ HNT s1
          go_wp2_with fail
          refine HGR.out.mono ?_; rintro e w1 ⟨rfl, hq1⟩
          have HQ1 := Lib.hid hq1
          have b1 := hq1.at a1
          have b2 := hq1.at a2
          have b3 := hq1.at a3
          clear hq1 a0 a1 a2 a3
          go_wp2_with fail
          refine (HSZ2.out _ HQ1.out).mono ?_; rintro e w2 ⟨rfl, hq2⟩
          have HQ2 := Lib.hid ((HQ.out.trans HQ1.out).trans hq2)
          clear hq2 b1 b2 b3
          go_wp2_with fail
          go_roundw
          case rel => exact ⟨i + 1, n + sz, by go_num, rfl, by omega, by omega, by omega, by omega, HNT2.out, HQ2.out⟩
          case measure => simp [intOf]; omega
        · rw [hg] at HGR
          generalize t.2.1 = k1 at *
          generalize t.2.2.1 = n1 at *
          clear hg ht HSZ HNT s1
          go_wp2_with fail
          refine HGR.out.mono ?_; rintro e w1 ⟨rfl, hq1⟩
          have HQ1 := Lib.hid (HQ.out.trans hq1)
          clear hq1
          go_wp2_with fail
          go_ret
          exact ⟨true, rfl, (fun h => by cases h), HQ1.out⟩
      · have h30' : ¬ (i : Int) < 30 := by omega
        have h24 : (24 : Int) < l.length := by omega
        go_wp2_with fail
        go_ret
        exact ⟨true, rfl, (fun h => by cases h), HQ.out⟩
    · have hlt' : ¬ (i : Int) < l.length := by omega
      have hil : i = l.length := by omega
      have htk : l.take i = l := List.take_of_length_le (by omega)
      rw [htk] at HAL
      clear htk
      by_cases h24 : (24 : Int) < l.length
      · go_wp2_with fail
        go_ret
        exact ⟨true, rfl, (fun h => by cases h), HQ.out⟩
      · go_wp2_with fail
        go_ret
        exact ⟨_, rfl, (fun _ => ⟨by omega, HAL.out⟩), HQ.out⟩
set_option maxHeartbeats 4000000 in
set_option maxRecDepth 100000 in
theorem greats_any (l : List Eqn) (w : World) (o : Option Addr) (cap : Nat) (hs : EqsAt w o l) (hz : l.length ≤ 9223372036854775807) :
    Calls Tryd.prog 39 #[.slice o l.length cap] w (BoolIf (FewEq l) w) := by
  have HS := Lib.hid hs
  clear hs
  go_enter Tryd.func39, Tryd.ntmps39
  go_wp2_with fail
  go_loopw [2, 3, 4] (fun _ s t wr => ∃ (i : Nat) (n : Int), t = .int .i64 i ∧ s = .int .i64 n ∧ i ≤ l.length ∧ i ≤ 70 ∧ 0 ≤ n ∧ n ≤ 600 * i ∧ (∀ t ∈ l.take i, t.1.2.2.size ≤ 300 ∧ t.2.1.2.2.size ≤ 300) ∧ Quiet0 w wr) (fun _ _ t _ => 70 - (intOf t).toNat)
  case atStart => exact ⟨0, 0, rfl, rfl, Nat.zero_le _, by omega, by omega, by omega, (fun t h => by simp at h), Quiet0.refl _⟩
  case round =>
    obtain ⟨i, n, rfl, rfl, hi, hi2, hn0, hn1, hal, hq⟩ := hrel
    have HAL := Lib.hid hal
    have HQ := Lib.hid hq
    clear hal hq
    by_cases hlt : i < l.length
    · have hlt' : (i : Int) < l.length := by omega
      by_cases h30 : i < 70
      · have h30' : (i : Int) < 70 := by omega
        obtain ⟨t, ht⟩ : ∃ t, l[i]? = some t := ⟨_, List.getElem?_eq_getElem hlt⟩
        obtain ⟨b, off, o1, l1, c1, o2, l2, c2, rfl, a0, a1, a2, a3, a4, a5, a6, a7, s1, s2⟩ := HS.out.stay HQ.out i t ht
        have HGR := Lib.hid (great_any t.1.1 t.1.2.1 t.1.2.2 wr o1 l1 c1 s1)
        have HGR2 := Lib.hid (fun (W : World) (hq : Quiet0 wr W) => great_any t.2.1.1 t.2.1.2.1 t.2.1.2.2 W o2 l2 c2 (s2.stay hq))
        have HSZ := Lib.hid (fun (W : World) (hq : Quiet0 wr W) (hz : t.1.2.2.size ≤ 1000000) => refSize_any t.1.1 t.1.2.1 t.1.2.2 W o1 l1 c1 (s1.stay hq) hz)
        have HSZ2 := Lib.hid (fun (W : World) (hq : Quiet0 wr W) (hz : t.2.1.2.2.size ≤ 1000000) => refSize_any t.2.1.1 t.2.1.2.1 t.2.1.2.2 W o2 l2 c2 (s2.stay hq) hz)
        have HNT : Hid (t.1.2.2.size ≤ 300 → t.2.1.2.2.size ≤ 300 → ∀ u ∈ l.take (i + 1), u.1.2.2.size ≤ 300 ∧ u.2.1.2.2.size ≤ 300) := by
          intro hz hz2 u hu
          rw [List.take_add_one, ht] at hu
          rcases List.mem_append.1 hu with h | h
          · exact HAL.out u h
          · have : u = t := by simpa using h
            rw [this]; exact ⟨hz, hz2⟩
        unfold tyv at HGR HGR2 HSZ HSZ2
        rw [show off + i * 8 + 4 = off + i * 8 + 3 + 1 from rfl] at a4
        rw [show off + i * 8 + 5 = off + i * 8 + 3 + 2 from rfl] at a5
        clear a6 a7
        cases hg : greatF t.1.2.2
        · cases hg2 : greatF t.2.1.2.2
          · have hgz := great_size hg
            have hgz2 := great_size hg2
            have HZA := Lib.hid (fun (W : World) (hq : Quiet0 wr W) => HSZ.out W hq (by omega))
            have HZB := Lib.hid (fun (W : World) (hq : Quiet0 wr W) => HSZ2.out W hq (by omega))
            have hx0 : (0 : Int) ≤ ((t.1.2.2.size + 1 : Nat) : Int) := by omega
            have hx1 : ((t.1.2.2.size + 1 : Nat) : Int) ≤ 300 := by omega
            have hy0 : (0 : Int) ≤ ((t.2.1.2.2.size + 1 : Nat) : Int) := by omega
            have hy1 : ((t.2.1.2.2.size + 1 : Nat) : Int) ≤ 300 := by omega
            have HNT2 := Lib.hid (HNT.out (by omega) (by omega))
            rw [hg] at HGR
            rw [hg2] at HGR2
            generalize ((t.1.2.2.size + 1 : Nat) : Int) = sx at *
            generalize ((t.2.1.2.2.size + 1 : Nat) : Int) = sy at *
            generalize t.1.1 = k1 at *
            generalize t.1.2.1 = n1 at *
            generalize t.2.1.1 = k2 at *
            generalize t.2.1.2.1 = n2 at *
            have hw : IntKind.i64.wrap (n + sx) = n + sx := IntWalk.i64_in _ (by omega)
            have hw2 : IntKind.i64.wrap (n + sx + sy) = n + sx + sy := IntWalk.i64_in _ (by omega)
            clear hg hg2 hgz hgz2 ht HSZ HSZ2 HNT s1 s2
            go_wp2_with fail
            refine HGR.out.mono ?_; rintro e w1 ⟨rfl, hq1⟩
            have HQ1 := Lib.hid hq1
            have b0 := hq1.at a0
            have b1 := hq1.at a1
            have b2 := hq1.at a2
            have b3 := hq1.at a3
            have b4 := hq1.at a4
            have b5 := hq1.at a5
            clear hq1 a0 a1 a2 a3 a4 a5
            go_wp2_with fail
            refine (HGR2.out _ HQ1.out).mono ?_; rintro e w2 ⟨rfl, hq2⟩
            have HQ2 := Lib.hid (HQ1.out.trans hq2)
            have a0 := hq2.at b0
            have a1 := hq2.at b1
            have a2 := hq2.at b2
            have a3 := hq2.at b3
            have a4 := hq2.at b4
            have a5 := hq2.at b5
            clear hq2 b0 b1 b2 b3 b4 b5
            have HZA2 := Lib.hid (fun (W : World) (hq : Quiet0 w2 W) => HZA.out W (HQ2.out.trans hq))
            have HZB2 := Lib.hid (fun (W : World) (hq : Quiet0 w2 W) => HZB.out W (HQ2.out.trans hq))
            have HLB : Hid (∀ w', Quiet0 w2 w' → (w'.cell? ⟨b, off + i * 8, none⟩ = some (.int .i64 k1) ∧ w'.cell? ⟨b, off + i * 8 + 1, none⟩ = some (.int .i64 n1) ∧ w'.cell? ⟨b, off + i * 8 + 2, none⟩ = some (.slice o1 l1 c1)) ∧ w'.cell? ⟨b, off + i * 8 + 3, none⟩ = some (.int .i64 k2) ∧ w'.cell? ⟨b, off + i * 8 + 3 + 1, none⟩ = some (.int .i64 n2) ∧ w'.cell? ⟨b, off + i * 8 + 3 + 2, none⟩ = some (.slice o2 l2 c2)) := fun W h => ⟨⟨h.at a0, h.at a1, h.at a2⟩, h.at a3, h.at a4, h.at a5⟩
            have hqc := Quiet0.refl w2
            go_wp2_with fail
            go_region_held3 (fun w' => (w'.cell? ⟨b, off + i * 8, none⟩ = some (.int .i64 k1) ∧ w'.cell? ⟨b, off + i * 8 + 1, none⟩ = some (.int .i64 n1) ∧ w'.cell? ⟨b, off + i * 8 + 2, none⟩ = some (.slice o1 l1 c1)) ∧ w'.cell? ⟨b, off + i * 8 + 3, none⟩ = some (.int .i64 k2) ∧ w'.cell? ⟨b, off + i * 8 + 3 + 1, none⟩ = some (.int .i64 n2) ∧ w'.cell? ⟨b, off + i * 8 + 3 + 2, none⟩ = some (.slice o2 l2 c2))
              (((refine HLB.out _ ?_); (repeat (first | with_reducible exact hqc | with_reducible exact Quiet0.refl _ | with_reducible refine Quiet0.trans ?_ (Quiet0.alloc _ _) | with_reducible refine Quiet0.trans ?_ (Quiet0.drew _) | fail))))
              (first
                | (go_at_call 46; (with_reducible refine Calls.mono (HZA2.out _ ?hq) ?_); (case hq => (repeat (first | with_reducible exact hqc | with_reducible exact Quiet0.refl _ | with_reducible refine Quiet0.trans ?_ (Quiet0.alloc _ _) | with_reducible refine Quiet0.trans ?_ (Quiet0.drew _) | fail))); rintro e wx ⟨rfl, hqx⟩; (refine with_q (w0 := w2) ?hq2 hqx ?_); (case hq2 => (repeat (first | with_reducible exact hqc | with_reducible exact Quiet0.refl _ | with_reducible refine Quiet0.trans ?_ (Quiet0.alloc _ _) | with_reducible refine Quiet0.trans ?_ (Quiet0.drew _) | fail))); intro hqc)
                | (go_at_call 46; (with_reducible refine Calls.mono (HZB2.out _ ?hq) ?_); (case hq => (repeat (first | with_reducible exact hqc | with_reducible exact Quiet0.refl _ | with_reducible refine Quiet0.trans ?_ (Quiet0.alloc _ _) | with_reducible refine Quiet0.trans ?_ (Quiet0.drew _) | fail))); rintro e wx ⟨rfl, hqx⟩; (refine with_q (w0 := w2) ?hq2 hqx ?_); (case hq2 => (repeat (first | with_reducible exact hqc | with_reducible exact Quiet0.refl _ | with_reducible refine Quiet0.trans ?_ (Quiet0.alloc _ _) | with_reducible refine Quiet0.trans ?_ (Quiet0.drew _) | fail))); intro hqc)
                | fail)
            all_goals
              go_wp2_with fail
              go_roundw
              case rel => exact ⟨i + 1, n + sx + sy, by go_num, rfl, by omega, by omega, by omega, by omega, HNT2.out, (HQ.out.trans HQ2.out).trans hqc⟩
              case measure => simp [intOf]; omega
          · rw [hg] at HGR
            rw [hg2] at HGR2
            generalize t.1.1 = k1 at *
            generalize t.1.2.1 = n1 at *
            generalize t.2.1.1 = k2 at *
            generalize t.2.1.2.1 = n2 at *
            clear hg hg2 ht HSZ HSZ2 HNT s1 s2
            go_wp2_with fail
            refine HGR.out.mono ?_; rintro e w1 ⟨rfl, hq1⟩
            have HQ1 := Lib.hid hq1
            have b3 := hq1.at a3
            have b4 := hq1.at a4
            have b5 := hq1.at a5
            clear hq1
            go_wp2_with fail
            refine (HGR2.out _ HQ1.out).mono ?_; rintro e w2 ⟨rfl, hq2⟩
            have HQ2 := Lib.hid ((HQ.out.trans HQ1.out).trans hq2)
            clear hq2
            go_wp2_with fail
            go_ret
            exact ⟨true, rfl, (fun h => by cases h), HQ2.out⟩
        · rw [hg] at HGR
          generalize t.1.1 = k1 at *
          generalize t.1.2.1 = n1 at *
          clear hg ht HSZ HSZ2 HNT s1 s2
          go_wp2_with fail
          refine HGR.out.mono ?_; rintro e w1 ⟨rfl, hq1⟩
          have HQ1 := Lib.hid (HQ.out.trans hq1)
          clear hq1
          go_wp2_with fail
          go_ret
          exact ⟨true, rfl, (fun h => by cases h), HQ1.out⟩
      · have h30' : ¬ (i : Int) < 70 := by omega
        have h24 : (60 : Int) < l.length := by omega
        go_wp2_with fail
        go_ret
        exact ⟨true, rfl, (fun h => by cases h), HQ.out⟩
    · have hlt' : ¬ (i : Int) < l.length := by omega
      have hil : i = l.length := by omega
      have htk : l.take i = l := List.take_of_length_le (by omega)
      rw [htk] at HAL
      clear htk
      by_cases h24 : (60 : Int) < l.length
      · go_wp2_with fail
        go_ret
        exact ⟨true, rfl, (fun h => by cases h), HQ.out⟩
      · go_wp2_with fail
        go_ret
        exact ⟨_, rfl, (fun _ => ⟨by omega, HAL.out⟩), HQ.out⟩
end Go.Proofs.YtggidhgifaekbaaDoor
/-
  The law SubstThen: it returns true. Conditions: the rows lie in memory; their numbers are in range; the table of powers of ten holds what its initialiser lays.
-/
namespace Go.Proofs.YtggidhgifaekbaaDoor
open Go.RowKit Go.Maps

set_option maxHeartbeats 8000000 in
set_option maxRecDepth 100000 in
theorem substThen_all (la lb : List Bd) (vars : List Int) (w : World) (oa : Option Addr) (capa : Nat) (ob : Option Addr) (capb : Nat) (ov : Option Addr) (capv : Nat) (hsa : BindsAt w oa la) (hsb : BindsAt w ob lb) (hv : IntsAt w ov vars) (hwa : ∀ t ∈ la, wfI t.1 ∧ wfI t.2.2.1 ∧ wfF t.2.2.2) (hwb : ∀ t ∈ lb, wfI t.1 ∧ wfI t.2.2.1 ∧ wfF t.2.2.2) (hwv : ∀ v ∈ vars, wfI v)
    (hza : la.length ≤ 9223372036854775807) (hzb : lb.length ≤ 9223372036854775807) (hzv : vars.length ≤ 9223372036854775807) (ht : Pow10 w) :
    Calls Tryd.prog 13 #[.slice oa la.length capa, .slice ob lb.length capb, .slice ov vars.length capv] w fun e w' => e = .returned (.bool true) ∧ Quiet0 w w' := by
  have HA := Lib.hid (fun (W : World) (hq : Quiet0 w W) => awake10_any W (ht.stay hq))
  have HG := Lib.hid (great10_any la w oa capa hsa hza)
  have HG2 := Lib.hid (fun (W : World) (hq : Quiet0 w W) => great10_any lb W ob capb (hsb.stay hq) hzb)
  have HV := Lib.hid hv
  have HALL : Hid (Few10 la → Few10 lb → vars.length ≤ 40 →
      (∀ v W, Quiet0 w W → Calls Tryd.prog 59 #[.slice oa la.length capa, .agg #[.int .i64 1, .int .i64 v, .slice none 0 0]] W fun e w' => ∃ o' len' cap', e = .returned (.agg #[.int .i64 (sK la 1 v), .int .i64 (sN la 1 v), .slice o' len' cap']) ∧ Slc w' o' len' (sP la 1 v .nil) ∧ Quiet0 W w') ∧
      (∀ v W, Quiet0 w W → Calls Tryd.prog 59 #[.slice ob lb.length capb, .agg #[.int .i64 1, .int .i64 v, .slice none 0 0]] W fun e w' => ∃ o' len' cap', e = .returned (.agg #[.int .i64 (sK lb 1 v), .int .i64 (sN lb 1 v), .slice o' len' cap']) ∧ Slc w' o' len' (sP lb 1 v .nil) ∧ Quiet0 W w') ∧
      (∀ W, Quiet0 w W → Calls Tryd.prog 56 #[.slice oa la.length capa, .slice ob lb.length capb] W fun e w' => ∃ a c, e = .returned (.slice a (thenB la lb).length c) ∧ BindsAt w' a (thenB la lb) ∧ Quiet0 W w') ∧
      (∀ W, Quiet0 w W → Calls Tryd.prog 65 #[.slice oa la.length capa, .slice ob lb.length capb] W fun e w' => ∃ a c, e = .returned (.slice a (thenB la lb).length c) ∧ BindsAt w' a (thenB la lb) ∧ Quiet0 W w') ∧
      (∀ W, Quiet0 w W → Calls Tryd.prog 66 #[.slice oa la.length capa, .slice ov vars.length capv] W fun e w' => ∃ a c, e = .returned (.slice a (onlyB la vars).length c) ∧ BindsAt w' a (onlyB la vars) ∧ Quiet0 W w') ∧
      (∀ W, Quiet0 w W → Calls Tryd.prog 67 #[.slice oa la.length capa, .slice ov vars.length capv] W fun e w' => ∃ a c, e = .returned (.slice a (onlyB la vars).length c) ∧ BindsAt w' a (onlyB la vars) ∧ Quiet0 W w') ∧
      (∀ W, Quiet0 w W → Calls Tryd.prog 55 #[.slice oa la.length capa, .slice ob lb.length capb, .slice ov vars.length capv] W fun e w' => e = .returned (.bool (vars.all (likeP la lb))) ∧ Quiet0 W w') ∧
      (∀ W o1 c1 o2 c2, BindsAt W o1 (thenB la lb) → BindsAt W o2 (thenB la lb) → Calls Tryd.prog 64 #[.slice o1 (thenB la lb).length c1, .slice o2 (thenB la lb).length c2] W fun e w' => e = .returned (.bool true) ∧ Quiet0 W w') ∧
      (∀ W o1 c1 o2 c2, BindsAt W o1 (onlyB la vars) → BindsAt W o2 (onlyB la vars) → Calls Tryd.prog 64 #[.slice o1 (onlyB la vars).length c1, .slice o2 (onlyB la vars).length c2] W fun e w' => e = .returned (.bool true) ∧ Quiet0 W w')) := by
    rintro ⟨a1, a2⟩ ⟨b1, b2⟩ hvz
    have hfa := first_length la
    have hfb := first_length lb
    have htl : (thenB la lb).length ≤ 1000 := by
      unfold thenB
      rw [List.length_append, List.length_map]
      have := List.length_filter_le (fun t : Bd => !hasB la t.1) (firstB lb)
      omega
    have hol : (onlyB la vars).length ≤ 1000 := by
      unfold onlyB
      have := List.length_filter_le (fun t : Bd => inB vars t.1) (firstB la)
      omega
    refine ⟨fun v W hq => ?_, fun v W hq => ?_, fun W hq => ?_, fun W hq => ?_, fun W hq => ?_, fun W hq => ?_, fun W hq => ?_, fun W o1 c1 o2 c2 h1 h2 => ?_, fun W o1 c1 o2 c2 h1 h2 => ?_⟩
    · exact refApply_of w oa capa la hsa (by omega) 1 v .nil (by simp [Fo.size]) _ _ _ rfl rfl rfl W hq none 0 0 (Slc.nil _ _)
    · exact refApply_of w ob capb lb hsb (by omega) 1 v .nil (by simp [Fo.size]) _ _ _ rfl rfl rfl W hq none 0 0 (Slc.nil _ _)
    · exact suThen_any la lb W oa capa ob capb (hsa.stay hq) (hsb.stay hq) (by omega) (by omega) (fun t h => ⟨by have := a2 t h; omega, hwa t h⟩) (fun t h => ⟨by have := b2 t h; omega, (hwb t h).1⟩)
    · exact suRefThen_any la lb W oa capa ob capb (hsa.stay hq) (hsb.stay hq) (by omega) (by omega) (fun t h => by have := a2 t h; omega)
    · exact suOnly_any la vars W oa capa ov capv (hsa.stay hq) (hv.stay hq) (fun t h => (hwa t h).1) (by omega) (by omega) (fun t h => by have := a2 t h; omega)
    · exact suRefOnly_any la vars W oa capa ov capv (hsa.stay hq) (hv.stay hq) (by omega) (by omega)
    · exact suAlike_any la lb vars W oa capa ob capb ov capv (hsa.stay hq) (hsb.stay hq) (hv.stay hq) (by omega) (by omega) (by omega) (fun t h => ⟨by have := a2 t h; omega, (hwa t h).1⟩) (fun t h => ⟨by have := b2 t h; omega, (hwb t h).1⟩) hwv
    · exact refSameB_any _ W o1 c1 o2 c2 h1 h2 (by omega)
    · exact refSameB_any _ W o1 c1 o2 c2 h1 h2 (by omega)
  generalize thenB la lb = TT at *
  generalize onlyB la vars = OO at *
  have hmm := @run_makeMap Tryd.prog
  clear hsa hsb hv hwa hwb hwv ht
  go_enter Tryd.func13, Tryd.ntmps13
  go_wp2_with fail
  refine HG.out.mono ?_; rintro e w1 ⟨g, rfl, hg, hq1⟩
  have HQ1 := Lib.hid hq1
  have HF := Lib.hid hg
  clear hq1 hg
  cases g
  · have HF0 := Lib.hid (HF.out rfl)
    go_wp2_with fail
    refine (HG2.out _ HQ1.out).mono ?_; rintro e w2 ⟨g, rfl, hg, hq2⟩
    have HQ2 := Lib.hid (HQ1.out.trans hq2)
    have HF2 := Lib.hid hg
    clear hq2 hg
    cases g
    · have HF20 := Lib.hid (HF2.out rfl)
      by_cases hvz : vars.length ≤ 40
      · have hvz' : ¬ (40 : Int) < vars.length := by omega
        have HAL := Lib.hid (HALL.out HF0.out HF20.out hvz)
        have H1 := Lib.hid HAL.out.1
        have H2 := Lib.hid HAL.out.2.1
        have H3 := Lib.hid HAL.out.2.2.1
        have H4 := Lib.hid HAL.out.2.2.2.1
        have H5 := Lib.hid HAL.out.2.2.2.2.1
        have H6 := Lib.hid HAL.out.2.2.2.2.2.1
        have H7 := Lib.hid HAL.out.2.2.2.2.2.2.1
        have H8 := Lib.hid HAL.out.2.2.2.2.2.2.2.1
        have H9 := Lib.hid HAL.out.2.2.2.2.2.2.2.2
        clear HAL HALL
        go_wp2_with fail
        go_loopw [7, 8] (fun s t wr => ∃ (i : Nat) (b : Bool), t = .int .i64 i ∧ i ≤ vars.length ∧ s = .bool b ∧ b = (vars.take i).all (likeP la lb) ∧ Quiet0 w wr) (fun _ t _ => vars.length - (intOf t).toNat)
        case atStart => exact ⟨0, true, rfl, Nat.zero_le _, rfl, rfl, HQ2.out⟩
        case round =>
          obtain ⟨i, b, rfl, hi, rfl, hb, hq⟩ := hrel
          have HB := Lib.hid hb
          have HQ := Lib.hid hq
          clear hb hq
          by_cases hlt : i < vars.length
          · have hlt' : (i : Int) < vars.length := by omega
            obtain ⟨v, hx⟩ : ∃ v, vars[i]? = some v := ⟨_, List.getElem?_eq_getElem hlt⟩
            obtain ⟨bb, off, rfl, e0⟩ := HV.out.stay HQ.out i v hx
            have HNT : Hid ((vars.take (i + 1)).all (likeP la lb) = ((vars.take i).all (likeP la lb) && likeP la lb v)) := by
              show _ = _
              rw [List.take_add_one, hx, List.all_append]; simp
            have HAP := Lib.hid (H1.out v)
            have HBP := Lib.hid (H2.out v)
            unfold likeP at HNT
            have HNT := Lib.hid HNT.out
            have HSM := Lib.hid (fun (W' : World) oa la' ca ob lb' cb (ha : Slc W' oa la' (sP la 1 v .nil)) (hb : Slc W' ob lb' (sP lb 1 v .nil)) => refSame_any (sK la 1 v) (sN la 1 v) (sP la 1 v .nil) (sK lb 1 v) (sN lb 1 v) (sP lb 1 v .nil) W' oa la' ca ob lb' cb ha hb)
            unfold tyv at HSM
            have HLK : Hid (likeP la lb v = sameT (sK la 1 v) (sN la 1 v) (sP la 1 v .nil) (sK lb 1 v) (sN lb 1 v) (sP lb 1 v .nil)) := rfl
            have HNT3 : Hid ((vars.take (i + 1)).all (likeP la lb) = ((vars.take i).all (likeP la lb) && likeP la lb v)) := by
              show _ = _
              rw [List.take_add_one, hx, List.all_append]; simp
            obtain ⟨lk, hlk⟩ : ∃ lk, lk = likeP la lb v := ⟨_, rfl⟩
            have HLK2 := Lib.hid hlk
            rw [← HLK.out, ← hlk] at HSM
            clear HNT HLK hlk hx
            generalize sK la 1 v = k1 at *
            generalize sN la 1 v = n1 at *
            generalize sP la 1 v .nil = p1 at *
            generalize sK lb 1 v = k2 at *
            generalize sN lb 1 v = n2 at *
            generalize sP lb 1 v .nil = p2 at *
            cases b
            · have HY : Hid (false = (vars.take (i + 1)).all (likeP la lb)) := by show _ = _; rw [HNT3.out, ← HB.out]; rfl
              clear HAP HBP HSM HNT3 HLK2
              go_wp2_with fail
              go_quiet (fail)
              go_wp2_with fail
              go_roundw
              case rel => exact ⟨i + 1, false, by go_num, by omega, rfl, HY.out, HQ.out.trans ((Quiet0.alloc _ _).trans (Quiet0.drewN _ _))⟩
              case measure => simp [intOf]; omega
            · obtain ⟨WB, hWB⟩ : ∃ WB, WB = wr.alloc (.cells #[.int .i64 1, .int .i64 v, .slice none 0 0] 24) := ⟨_, rfl⟩
              have HQB : Hid (Quiet0 wr WB) := by rw [hWB]; exact Quiet0.alloc _ _
              have HBC : Hid (∀ w', Quiet0 WB w' → w'.cell? ⟨wr.heap.size, 0, none⟩ = some (.int .i64 1) ∧ w'.cell? ⟨wr.heap.size, 1, none⟩ = some (.int .i64 v) ∧ w'.cell? ⟨wr.heap.size, 2, none⟩ = some (.slice none 0 0)) := by
                intro W h; rw [hWB] at h; exact box_cells wr 1 v none 0 0 _ W h
              go_upto_region 8 with fail
              change Code.wp _ _ _ _ (wr.alloc (.cells #[.int .i64 1, .int .i64 v, .slice none 0 0] 24))
              rw [← hWB]
              clear hWB e0
              generalize wr.heap.size = BB at *
              have hqc := Quiet0.refl WB
              obtain ⟨c0, c1, c2⟩ := HBC.out WB hqc
              have HQ0 := Lib.hid (HQ.out.trans HQB.out)
              go_region_held3 (fun w' => w'.cell? ⟨BB, 0, none⟩ = some (.int .i64 1) ∧ w'.cell? ⟨BB, 1, none⟩ = some (.int .i64 v) ∧ w'.cell? ⟨BB, 2, none⟩ = some (.slice none 0 0))
                (((refine HBC.out _ ?_); (repeat (first | with_reducible exact hqc | with_reducible exact Quiet0.refl _ | with_reducible refine Quiet0.trans ?_ (Quiet0.alloc _ _) | with_reducible refine Quiet0.trans ?_ (Quiet0.drew _) | fail))))
                (first
                  | (go_at_call 59; (with_reducible refine Calls.mono (HAP.out _ (HQ0.out.trans ?hq)) ?_); (case hq => (repeat (first | with_reducible exact hqc | with_reducible exact Quiet0.refl _ | with_reducible refine Quiet0.trans ?_ (Quiet0.alloc _ _) | with_reducible refine Quiet0.trans ?_ (Quiet0.drew _) | fail))); rintro e wx ⟨oa', la', ca', rfl, hsa, hqx⟩; (try (refine with_st hsb ?hq3 hqx ?_; (case hq3 => (repeat (first | with_reducible exact Quiet0.refl _ | with_reducible refine Quiet0.trans ?_ (Quiet0.alloc _ _) | with_reducible refine Quiet0.trans ?_ (Quiet0.drew _) | fail))); intro hsb)); (refine with_q (w0 := WB) ?hq2 hqx ?_); (case hq2 => (repeat (first | with_reducible exact hqc | with_reducible exact Quiet0.refl _ | with_reducible refine Quiet0.trans ?_ (Quiet0.alloc _ _) | with_reducible refine Quiet0.trans ?_ (Quiet0.drew _) | fail))); intro hqc)
                  | (go_at_call 59; (with_reducible refine Calls.mono (HBP.out _ (HQ0.out.trans ?hq)) ?_); (case hq => (repeat (first | with_reducible exact hqc | with_reducible exact Quiet0.refl _ | with_reducible refine Quiet0.trans ?_ (Quiet0.alloc _ _) | with_reducible refine Quiet0.trans ?_ (Quiet0.drew _) | fail))); rintro e wx ⟨ob', lb', cb', rfl, hsb, hqx⟩; (try (refine with_st hsa ?hq3 hqx ?_; (case hq3 => (repeat (first | with_reducible exact Quiet0.refl _ | with_reducible refine Quiet0.trans ?_ (Quiet0.alloc _ _) | with_reducible refine Quiet0.trans ?_ (Quiet0.drew _) | fail))); intro hsa)); (refine with_q (w0 := WB) ?hq2 hqx ?_); (case hq2 => (repeat (first | with_reducible exact hqc | with_reducible exact Quiet0.refl _ | with_reducible refine Quiet0.trans ?_ (Quiet0.alloc _ _) | with_reducible refine Quiet0.trans ?_ (Quiet0.drew _) | fail))); intro hqc)
                  | (go_at_call 19; (with_reducible refine Calls.mono (HSM.out _ _ _ _ _ _ _ (hsa.stay ?h1) (hsb.stay ?h2)) ?_); ((case h1 => (repeat (first | with_reducible exact Quiet0.refl _ | with_reducible refine Quiet0.trans ?_ (Quiet0.alloc _ _) | with_reducible refine Quiet0.trans ?_ (Quiet0.drew _) | fail))); (case h2 => (repeat (first | with_reducible exact Quiet0.refl _ | with_reducible refine Quiet0.trans ?_ (Quiet0.alloc _ _) | with_reducible refine Quiet0.trans ?_ (Quiet0.drew _) | fail)))); rintro e wx ⟨rfl, hqx⟩; (refine with_q (w0 := WB) ?hq2 hqx ?_); (case hq2 => (repeat (first | with_reducible exact hqc | with_reducible exact Quiet0.refl _ | with_reducible refine Quiet0.trans ?_ (Quiet0.alloc _ _) | with_reducible refine Quiet0.trans ?_ (Quiet0.drew _) | fail))); intro hqc)
                  | fail)
              all_goals
                have HY : Hid (lk = (vars.take (i + 1)).all (likeP la lb)) := by show _ = _; rw [HNT3.out, ← HB.out, HLK2.out]; rfl
                have HQ1 := Lib.hid (HQ0.out.trans hqc)
                clear hqc hsa hsb c0 c1 c2
                go_wp2_with fail
                go_roundw
                case rel => exact ⟨i + 1, lk, by go_num, by omega, rfl, HY.out, HQ1.out⟩
                case measure => simp [intOf]; omega
          · have hlt' : ¬ (i : Int) < vars.length := by omega
            have htk : vars.take i = vars := List.take_of_length_le (by omega)
            rw [htk] at HB
            rw [← HB.out] at H7
            clear htk
            go_wp2_with fail
            refine (H3.out _ HQ.out).mono ?_; rintro e x1 ⟨a1, c1, rfl, hb1, hq1⟩
            have HX1 := Lib.hid (HQ.out.trans hq1)
            have HB1 := Lib.hid hb1
            clear hq1 hb1
            go_wp2_with fail
            refine (H4.out _ HX1.out).mono ?_; rintro e x2 ⟨a2, c2, rfl, hb2, hq2⟩
            have HX2 := Lib.hid (HX1.out.trans hq2)
            have HB12 := Lib.hid (HB1.out.stay hq2)
            have HB2 := Lib.hid hb2
            clear hq2 hb2
            go_wp2_with fail
            refine (H8.out _ _ _ _ _ HB12.out HB2.out).mono ?_; rintro e x3 ⟨rfl, hq3⟩
            have HX3 := Lib.hid (HX2.out.trans hq3)
            clear hq3
            go_wp2_with fail
            refine (H5.out _ HX3.out).mono ?_; rintro e x4 ⟨a4, c4, rfl, hb4, hq4⟩
            have HX4 := Lib.hid (HX3.out.trans hq4)
            have HB4 := Lib.hid hb4
            clear hq4 hb4
            go_wp2_with fail
            refine (H6.out _ HX4.out).mono ?_; rintro e x5 ⟨a5, c5, rfl, hb5, hq5⟩
            have HX5 := Lib.hid (HX4.out.trans hq5)
            have HB45 := Lib.hid (HB4.out.stay hq5)
            have HB5 := Lib.hid hb5
            clear hq5 hb5
            go_wp2_with fail
            refine (H9.out _ _ _ _ _ HB45.out HB5.out).mono ?_; rintro e x6 ⟨rfl, hq6⟩
            have HX6 := Lib.hid (HX5.out.trans hq6)
            clear hq6
            go_wp2_with fail
            refine (H7.out _ HX6.out).mono ?_; rintro e x7 ⟨rfl, hq7⟩
            have HX7 := Lib.hid (HX6.out.trans hq7)
            clear hq7
            go_wp2_with fail
            refine (HA.out _ HX7.out).mono ?_; rintro e x8 ⟨rfl, hq8⟩
            go_wp2_with fail
            go_ret
            exact ⟨rfl, HX7.out.trans hq8⟩
      · have hvz' : (40 : Int) < vars.length := by omega
        go_wp2_with fail
        refine (HA.out _ HQ2.out).mono ?_; rintro e w3 ⟨rfl, hq3⟩
        go_wp2_with fail
        go_ret
        exact ⟨rfl, HQ2.out.trans hq3⟩
    · go_wp2_with fail
      refine (HA.out _ HQ2.out).mono ?_; rintro e w3 ⟨rfl, hq3⟩
      go_wp2_with fail
      go_ret
      exact ⟨rfl, HQ2.out.trans hq3⟩
  · go_wp2_with fail
    refine (HA.out _ HQ1.out).mono ?_; rintro e w3 ⟨rfl, hq3⟩
    go_wp2_with fail
    go_ret
    exact ⟨rfl, HQ1.out.trans hq3⟩
end Go.Proofs.YtggidhgifaekbaaDoor
/-
  What closes a law's row: it returned true, and of what was there nothing has turned. No condition.
-/
namespace Go.Proofs.YtggidhgifaekbaaDoor
open Go.ChangeShapes Go.WideShapes Go.ChangeAt Go.RowKit

theorem own : ownKnob Tryd.prog.godebug = none := by kernel_rfl

def typesRead (P : Program) (ts : List TypeId) : Bool := ts.all fun t => P.readableRec t && decide (t < P.types.size)

theorem below_trodAll {H : Type} {enc : TypeId × Value → H} {P : Program} (hl : laidOutB P = true) {W W' : World} (hb : Below W.heap.size W W') :
    ∀ (ts : List TypeId) (vs : List Value) (ds : List (DataW H)) (ps : List MemPlace), typesRead P ts = true → DataW.TrodAll enc P W 0 (fun _ => true) true ts vs ds ps → (∀ x ∈ ps, x.block < W.heap.size) →
      DataW.TrodAll enc P W' 0 (fun b => decide (b < W.heap.size)) true ts vs ds ps
  | [], vs, ds, ps, _, h, _ => by
    obtain ⟨rfl, rfl, rfl⟩ := trodAll_nil h
    exact trodAll_mk0
  | t :: ts, vs, ds, ps, hr, h, hlt => by
    obtain ⟨v, vs', d, ds', p, q, rfl, rfl, rfl, h1, h2⟩ := trodAll_cons h
    simp only [typesRead, List.all_cons, Bool.and_eq_true, decide_eq_true_eq] at hr
    exact trodAll_cons_mk (Below.trod hl hr.1.1 hr.1.2 h1 hb (fun x hx => hlt x (List.mem_append_left _ hx)))
      (below_trodAll hl hb ts vs' ds' q hr.2 h2 (fun x hx => hlt x (List.mem_append_right _ hx)))

theorem law_post {H : Type} {enc : TypeId × Value → H} {f : Func} {s : ChangeSpec} {W W' : World} {args : Array Value} {ds gs : List (DataW H)} {before : List MemPlace}
    (hW : DataW.Whole enc Tryd.prog f.params.toList s.vars false W args.toList ds gs before) (hv : s.vars = []) (hs : (s.fn H (ds ++ gs)).results = [.lit (.bool true)]) (hs2 : (s.fn H (ds ++ gs)).args = ds) (hs3 : (s.fn H (ds ++ gs)).vars = [])
    (hres : f.resultTypes = #[4]) (hread : typesRead Tryd.prog f.params.toList = true) (hb : Below W.heap.size W W') :
    s.post enc Tryd.prog f false true false false W args (.bool true) W' := by
  have hlt := hW.lt
  have hW' := hW
  obtain ⟨p, q, hA, hV, rfl, hfz, hnd⟩ := hW
  refine ⟨ds, gs, _, [], p, [], hW', ?_, ?_, ?_, hb.frame _, fun h => by cases h⟩
  · rw [hs, hres]; exact trodAll_cons_mk (shut_bool Tryd.underlying4 _) trodAll_mk0
  · rw [hs2]; exact below_trodAll (by kernel_rfl) hb _ _ _ _ hread hA (fun x hx => by have := hlt x (List.mem_append_left _ hx); simpa using this)
  · rw [hs3, hv]; exact rfl
end Go.Proofs.YtggidhgifaekbaaDoor
/-
  Types that came in as arguments: rows of types, however deep. No condition.
-/
namespace Go.Proofs.YtggidhgifaekbaaDoor
open Go.ChangeShapes Go.WideShapes Go.ChangeAt Go.RowKit

theorem spot_none {w : World} {a : Addr} {v : Value} (h : w.cell? (a.add 0) = some v) : ∃ b off, a = ⟨b, off, none⟩ := by
  obtain ⟨b, off, s⟩ := a
  cases s with
  | none => exact ⟨b, off, rfl⟩
  | some s =>
    unfold World.cell? Addr.add at h
    simp only [if_true] at h
    split at h <;> simp_all
section
variable {H : Type} {enc : TypeId × Value → H} {P : Program} {w : World} {base : Nat} {spare : Nat → Bool} {held : Bool}
theorem at_of_cells {b off len : Nat} (one : ∀ i, i < len → ∃ k n o l c ps, w.cell? ⟨b, off + i * 3, none⟩ = some (.int .i64 k) ∧ w.cell? ⟨b, off + i * 3 + 1, none⟩ = some (.int .i64 n) ∧ w.cell? ⟨b, off + i * 3 + 2, none⟩ = some (.slice o l c) ∧ Slc w o l ps ∧ wfI n ∧ wfF ps) :
    ∀ m s, s + m = len → ∃ f : Fo, f.length = m ∧ At w b (off + s * 3) f ∧ wfF f
  | 0, s, _ => ⟨.nil, rfl, trivial, trivial⟩
  | m + 1, s, h => by
    obtain ⟨k, n, o, l, c, ps, h1, h2, h3, hs, hw, hwp⟩ := one s (by omega)
    obtain ⟨r, hr, ha, hwr⟩ := at_of_cells one m (s + 1) (by omega)
    refine ⟨.cons k n ps r, by simp [Fo.length, hr], ⟨h1, h2, ⟨o, l, c, h3, hs.1, hs.2.1, hs.2.2⟩, ?_⟩, hw, hwp, hwr⟩
    rw [show off + s * 3 + 3 = off + (s + 1) * 3 from by omega]
    exact ha
theorem open_parts {te : TypeId} {f0 f1 f2 : Field} (he : P.underlying te = some (.struct #[f0, f1, f2])) (ce : P.cellsOf te = 3)
    (o0 : f0.offset = 0) (o1 : f1.offset = 1) (o2 : f2.offset = 2) (c0 : P.cellsOf f0.type = 1) (c1 : P.cellsOf f1.type = 1) (c2 : P.cellsOf f2.type = 1) (k0 : P.underlying f0.type = some (.int .i64)) (k1 : P.underlying f1.type = some (.int .i64)) (k2 : P.underlying f2.type = some (.slice te)) :
    ∀ (fuel : Nat) (ts : TypeId) (cs : List Value) (x : DataW H × List MemPlace), P.underlying ts = some (.slice te) → DataW.trod enc P w base spare held fuel ts cs = some x → ∃ o len cap f, cs = [.slice o len cap] ∧ Slc w o len f ∧ wfF f := by
  intro fuel
  induction fuel using Nat.strongRecOn with
  | _ fuel ih =>
  intro ts cs x hts h
  rcases DataW.trod_slice hts h with ⟨rfl, _⟩ | ⟨a, len, cap, elems, rest, n, hfu, rfl, _, _, hl, hm, hlen, hel, _⟩
  · exact ⟨_, _, _, .nil, rfl, Slc.nil _ _, trivial⟩
  · have one : ∀ i, i < len → ∃ k n o l c ps, w.cell? (a.add (i * 3)) = some (.int .i64 k) ∧ w.cell? (a.add (i * 3 + 1)) = some (.int .i64 n) ∧ w.cell? (a.add (i * 3 + 2)) = some (.slice o l c) ∧ Slc w o l ps ∧ wfI n ∧ wfF ps := by
      intro i hi
      have h1 := hel i hi
      rw [List.getElem?_eq_getElem (by omega)] at h1
      obtain ⟨cs', h2, h3⟩ := Option.bind_eq_some_iff.1 h1
      rw [ce] at h2
      obtain ⟨_, hcl, hcell⟩ := World.cells?_some h2
      obtain ⟨xs, n', hn', _, _, hxl, hfx⟩ := DataW.trod_struct he h3
      match cs', hcl with
      | [u0, u1, u2], _ =>
        have hxl3 : xs.length = 3 := by simpa using hxl
        have s0 := hfx 0 f0 rfl
        have s1 := hfx 1 f1 rfl
        have s2 := hfx 2 f2 rfl
        rw [c0, o0, show xs[0]? = some (xs[0]'(by omega)) from by simp [hxl3]] at s0
        rw [c1, o1, show xs[1]? = some (xs[1]'(by omega)) from by simp [hxl3]] at s1
        rw [c2, o2, show xs[2]? = some (xs[2]'(by omega)) from by simp [hxl3]] at s2
        obtain ⟨z0, hz0, _, hw0⟩ := DataW.trod_int k0 s0
        obtain ⟨z1, hz1, _, hw1⟩ := DataW.trod_int k1 s1
        obtain ⟨o, l, c, ps, hz2, hps, hwp⟩ := ih n' (by omega) f2.type _ _ k2 s2
        simp at hz0 hz1 hz2
        have e1 := hcell 1 (by omega)
        have e2 := hcell 2 (by omega)
        simp [Deep.add_add] at e1 e2
        refine ⟨z0, z1, o, l, c, ps, ?_, ?_, ?_, hps, hw1, hwp⟩
        · have : (a.add (i * 3)).add 0 = a.add (i * 3) := by rw [Deep.add_add]; rfl
          rw [← this, hcell 0 (by omega)]; simp [hz0]
        · rw [e1, hz1]
        · rw [e2, hz2]
    by_cases h0 : len = 0
    · subst h0
      exact ⟨_, _, _, .nil, rfl, Slc.nil _ _, trivial⟩
    · obtain ⟨k, n, o, l, c, ps, h1, _⟩ := one 0 (by omega)
      rw [Nat.zero_mul] at h1
      obtain ⟨b, off, rfl⟩ := spot_none h1
      obtain ⟨f, hf, hA, hwf⟩ := at_of_cells (b := b) (off := off) (len := len) (w := w) (fun i hi => by
        obtain ⟨k, n, o, l, c, ps, h1, h2, h3, h4⟩ := one i hi
        exact ⟨k, n, o, l, c, ps, by simpa [Addr.add_lit] using h1, by simpa [Addr.add_lit, Nat.add_assoc] using h2, by simpa [Addr.add_lit, Nat.add_assoc] using h3, h4⟩) len 0 (by omega)
      rw [Nat.zero_mul, Nat.add_zero] at hA
      exact ⟨_, _, _, f, rfl, ⟨hf.symm, by omega, fun _ => ⟨b, off, rfl, hA⟩⟩, hwf⟩
theorem open_agg {te : TypeId} {f0 f1 f2 : Field} (he : P.underlying te = some (.struct #[f0, f1, f2])) (ce : P.cellsOf te = 3)
    (o0 : f0.offset = 0) (o1 : f1.offset = 1) (o2 : f2.offset = 2) (c0 : P.cellsOf f0.type = 1) (c1 : P.cellsOf f1.type = 1) (c2 : P.cellsOf f2.type = 1) (k0 : P.underlying f0.type = some (.int .i64)) (k1 : P.underlying f1.type = some (.int .i64)) (k2 : P.underlying f2.type = some (.slice te))
    {fuel : Nat} {cs : List Value} {x : DataW H × List MemPlace} (h : DataW.trod enc P w base spare held fuel te cs = some x) : ∃ k n o len cap f, cs = [.int .i64 k, .int .i64 n, .slice o len cap] ∧ Slc w o len f ∧ wfI n ∧ wfF f := by
  obtain ⟨xs, n', hn', _, hcl, hxl, hfx⟩ := DataW.trod_struct he h
  rw [ce] at hcl
  match cs, hcl with
  | [u0, u1, u2], _ =>
    have hxl3 : xs.length = 3 := by simpa using hxl
    have s0 := hfx 0 f0 rfl
    have s1 := hfx 1 f1 rfl
    have s2 := hfx 2 f2 rfl
    rw [c0, o0, show xs[0]? = some (xs[0]'(by omega)) from by simp [hxl3]] at s0
    rw [c1, o1, show xs[1]? = some (xs[1]'(by omega)) from by simp [hxl3]] at s1
    rw [c2, o2, show xs[2]? = some (xs[2]'(by omega)) from by simp [hxl3]] at s2
    obtain ⟨z0, hz0, _, hw0⟩ := DataW.trod_int k0 s0
    obtain ⟨z1, hz1, _, hw1⟩ := DataW.trod_int k1 s1
    obtain ⟨o, l, c, ps, hz2, hps, hwp⟩ := open_parts he ce o0 o1 o2 c0 c1 c2 k0 k1 k2 n' f2.type _ _ k2 s2
    simp at hz0 hz1 hz2
    exact ⟨z0, z1, o, l, c, ps, by rw [hz0, hz1, hz2], hps, hw1, hwp⟩
end
section
variable {H : Type} {enc : TypeId × Value → H} {w : World} {base : Nat} {spare : Nat → Bool} {held : Bool}
/-- an argument that is a row of types -/
theorem open_types {ts : TypeId} {v : Value} {d : DataW H} {p : List MemPlace} (ht : Tryd.prog.underlying ts = some (.slice 24)) (hv : ∃ a len cap, v = .slice a len cap) (h : DataW.Trod enc Tryd.prog w base spare held ts v d p) : ∃ o n c f, v = .slice o n c ∧ Slc w o n f ∧ wfF f ∧ n ≤ c := by
  obtain ⟨a0, l0, cc0, rfl⟩ := hv
  obtain ⟨fuel, hf⟩ := h
  have hlc : l0 ≤ cc0 := by
    rcases DataW.trod_slice ht hf with ⟨he, _⟩ | ⟨a, len, cap, _, _, _, _, he, _, _, hl, _⟩
    · simp [Value.cells] at he; omega
    · simp [Value.cells] at he; omega
  obtain ⟨o, n, c, f, he, hs, hw⟩ := open_parts Tryd.underlying24 (by kernel_rfl) rfl rfl rfl (by kernel_rfl) (by kernel_rfl) (by kernel_rfl) Tryd.underlying3 Tryd.underlying3 Tryd.underlying22 fuel ts _ _ ht hf
  simp [Value.cells] at he
  obtain ⟨rfl, rfl, rfl⟩ := he
  exact ⟨_, _, _, f, rfl, hs, hw, hlc⟩
/-- an argument that is a type -/
theorem open_type {v : Value} {d : DataW H} {p : List MemPlace} (hv : ∃ cs, v = .agg cs ∧ cs.size = Tryd.prog.cellsOf 24) (h : DataW.Trod enc Tryd.prog w base spare held 24 v d p) : ∃ k n o len cap f, v = tyv k n o len cap ∧ Slc w o len f ∧ wfI n ∧ wfF f := by
  obtain ⟨cs, rfl, _⟩ := hv
  obtain ⟨fuel, hf⟩ := h
  obtain ⟨k, n, o, len, cap, f, he, hs, hw, hwf⟩ := open_agg Tryd.underlying24 (by kernel_rfl) rfl rfl rfl (by kernel_rfl) (by kernel_rfl) (by kernel_rfl) Tryd.underlying3 Tryd.underlying3 Tryd.underlying22 hf
  refine ⟨k, n, o, len, cap, f, ?_, hs, hw, hwf⟩
  unfold tyv
  congr 1
  apply Array.toList_inj.1
  simpa [Value.cells] using he
end
end Go.Proofs.YtggidhgifaekbaaDoor
