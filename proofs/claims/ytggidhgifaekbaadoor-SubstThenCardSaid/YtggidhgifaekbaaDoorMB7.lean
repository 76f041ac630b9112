/-
  Texts laid together (SuEq, TySame2, SuSolves, TyPrint, SuAwake, SuOnly, SuCount2): what each one proves, and its conditions, stands at its head.
-/
import Derived.Test.YtggidhgifaekbaaDoorMB1
import Derived.Test.YtggidhgifaekbaaDoorMB2
import Derived.Test.YtggidhgifaekbaaDoorMB3
import Derived.Test.YtggidhgifaekbaaDoorMB4
import Derived.Test.YtggidhgifaekbaaDoorMB5
import Derived.Test.YtggidhgifaekbaaDoorMB6
/-
  Equations in memory; slices.IndexFunc and ContainsFunc on them. Conditions: the rows lie in memory as told.
-/
namespace Go.Proofs.YtggidhgifaekbaaDoor
open Go.RowKit Go.Maps

/-- an equation: two types, and a span -/
abbrev Eqn := (Int × Int × Fo) × (Int × Int × Fo) × Int × Int
def eqv (t : Eqn) (o1 : Option Addr) (l1 c1 : Nat) (o2 : Option Addr) (l2 c2 : Nat) : Value :=
  .agg #[.int .i64 t.1.1, .int .i64 t.1.2.1, .slice o1 l1 c1, .int .i64 t.2.1.1, .int .i64 t.2.1.2.1, .slice o2 l2 c2, .int .i64 t.2.2.1, .int .i64 t.2.2.2]
def EqsAt (w : World) (o : Option Addr) (l : List Eqn) : Prop := ∀ i t, l[i]? = some t → ∃ b off o1 l1 c1 o2 l2 c2, o = some ⟨b, off, none⟩ ∧
  w.cell? ⟨b, off + i * 8, none⟩ = some (.int .i64 t.1.1) ∧ w.cell? ⟨b, off + i * 8 + 1, none⟩ = some (.int .i64 t.1.2.1) ∧ w.cell? ⟨b, off + i * 8 + 2, none⟩ = some (.slice o1 l1 c1) ∧
  w.cell? ⟨b, off + i * 8 + 3, none⟩ = some (.int .i64 t.2.1.1) ∧ w.cell? ⟨b, off + i * 8 + 4, none⟩ = some (.int .i64 t.2.1.2.1) ∧ w.cell? ⟨b, off + i * 8 + 5, none⟩ = some (.slice o2 l2 c2) ∧
  w.cell? ⟨b, off + i * 8 + 6, none⟩ = some (.int .i64 t.2.2.1) ∧ w.cell? ⟨b, off + i * 8 + 7, none⟩ = some (.int .i64 t.2.2.2) ∧ Slc w o1 l1 t.1.2.2 ∧ Slc w o2 l2 t.2.1.2.2
theorem EqsAt.stay {w w' : World} {o : Option Addr} {l : List Eqn} (h : EqsAt w o l) (hq : Quiet0 w w') : EqsAt w' o l := by
  intro i t ht
  obtain ⟨b, off, o1, l1, c1, o2, l2, c2, h0, a0, a1, a2, a3, a4, a5, a6, a7, s1, s2⟩ := h i t ht
  exact ⟨b, off, o1, l1, c1, o2, l2, c2, h0, hq.at a0, hq.at a1, hq.at a2, hq.at a3, hq.at a4, hq.at a5, hq.at a6, hq.at a7, s1.stay hq, s2.stay hq⟩
def idxE (p : Eqn → Bool) : List Eqn → Nat → Int
  | [], _ => -1
  | t :: r, i => if p t then i else idxE p r (i + 1)
theorem idxE_any (p : Eqn → Bool) : ∀ (l : List Eqn) (i : Nat), decide (0 ≤ idxE p l i) = l.any p
  | [], i => rfl
  | t :: r, i => by
    unfold idxE
    rw [List.any_cons]
    cases h : p t
    · simp only [Bool.false_eq_true, if_false, Bool.false_or]; exact idxE_any p r (i + 1)
    · simp
def PredEq (g : Nat) (lb : Array Value) (w0 : World) (l : List Eqn) (p : Eqn → Bool) : Prop := ∀ t ∈ l, ∀ (W : World) (o1 : Option Addr) (l1 c1 : Nat) (o2 : Option Addr) (l2 c2 : Nat), Quiet0 w0 W → Slc W o1 l1 t.1.2.2 → Slc W o2 l2 t.2.1.2.2 →
  Calls Tryd.prog g (#[eqv t o1 l1 c1 o2 l2 c2] ++ lb) W fun e W' => e = .returned (.bool (p t)) ∧ Quiet0 W W'
set_option maxHeartbeats 1000000 in
theorem indexEq_any (g : Nat) (lb : Array Value) (p : Eqn → Bool) (eg : ∀ args w, (callFunc g args).run Tryd.prog w = .ok (.enter g args) w) (l : List Eqn) (o : Option Addr) (cap : Nat) (w : World) (hs : EqsAt w o l) (hp : PredEq g lb w l p) (hz : l.length ≤ 1000000) :
    Calls Tryd.prog 118 #[.slice o l.length cap, .func (.func g) #[] lb] w fun e w' => e = .returned (.int .i64 (idxE p l 0)) ∧ Quiet0 w w' := by
  have HS := Lib.hid hs
  have HP := Lib.hid hp
  clear hs hp
  obtain ⟨res, hres⟩ : ∃ res, res = idxE p l 0 := ⟨_, rfl⟩
  have HR := Lib.hid hres
  rw [← hres]
  clear hres
  go_enter Tryd.func118, Tryd.ntmps118
  go_wp2_with fail
  go_loopw [8] (fun t wr => ∃ i : Nat, t = .int .i64 i ∧ i ≤ l.length ∧ res = idxE p (l.drop i) i ∧ Quiet0 w wr) (fun t _ => l.length - (intOf t).toNat)
  case atStart => exact ⟨0, rfl, Nat.zero_le _, HR.out, Quiet0.refl _⟩
  case round =>
    obtain ⟨i, rfl, hi, hr, hq⟩ := hrel
    have HRR := Lib.hid hr
    have HQ := Lib.hid hq
    clear hr hq
    by_cases hlt : i < l.length
    · have hlt' : (i : Int) < l.length := by omega
      obtain ⟨t, ht⟩ : ∃ t, l[i]? = some t := ⟨_, List.getElem?_eq_getElem hlt⟩
      obtain ⟨b, off, o1, l1, c1, o2, l2, c2, rfl, a0, a1, a2, a3, a4, a5, a6, a7, s1, s2⟩ := HS.out.stay HQ.out i t ht
      have HN : Hid (res = if p t then (i : Int) else idxE p (l.drop (i + 1)) (i + 1)) := by
        show _ = _
        rw [HRR.out, drop_some ht]; rfl
      have HC := Lib.hid (HP.out t (List.mem_of_getElem? ht) wr o1 l1 c1 o2 l2 c2 HQ.out s1 s2)
      unfold eqv at HC
      clear ht s1 s2
      cases hb : p t
      all_goals
        rw [hb] at HC HN
        clear hb
        go_wp2_with fail
        refine HC.out.mono ?_; rintro e w1 ⟨rfl, hq1⟩
        have HQ1 := Lib.hid (HQ.out.trans hq1)
        clear hq1
        go_wp2_with fail
      · go_roundw
        case rel => exact ⟨i + 1, by go_num, by omega, HN.out, HQ1.out⟩
        case measure => simp [intOf]; omega
      · go_ret
        exact ⟨by rw [HN.out]; rfl, HQ1.out⟩
    · have hlt' : ¬ (i : Int) < l.length := by omega
      have HY : Hid (res = -1) := by show _ = _; rw [HRR.out, List.drop_of_length_le (by omega)]; rfl
      go_wp2_with fail
      go_ret
      exact ⟨by rw [HY.out]; rfl, HQ.out⟩
theorem containsEq_any (g : Nat) (lb : Array Value) (p : Eqn → Bool) (eg : ∀ args w, (callFunc g args).run Tryd.prog w = .ok (.enter g args) w) (l : List Eqn) (o : Option Addr) (cap : Nat) (w : World) (hs : EqsAt w o l) (hp : PredEq g lb w l p) (hz : l.length ≤ 1000000) :
    Calls Tryd.prog 86 #[.slice o l.length cap, .func (.func g) #[] lb] w fun e w' => e = .returned (.bool (l.any p)) ∧ Quiet0 w w' := by
  have HC := Lib.hid (indexEq_any g lb p eg l o cap w hs hp hz)
  rw [← idxE_any p l 0]
  clear hs hp eg
  generalize idxE p l 0 = r at *
  go_enter Tryd.func86, Tryd.ntmps86
  go_wp2_with fail
  refine HC.out.mono ?_; rintro e w1 ⟨rfl, hq⟩
  go_wp2_with fail
  go_ret
  exact ⟨rfl, hq⟩
end Go.Proofs.YtggidhgifaekbaaDoor
/-
  The program's Same on types, with slices.EqualFunc. Condition: the types lie in memory as told.
-/
namespace Go.Proofs.YtggidhgifaekbaaDoor
open Go.RowKit

theorem eg_same : ∀ args w, (callFunc 52 args).run Tryd.prog w = .ok (.enter 52 args) w := enters_of Tryd.func52 (by kernel_rfl) rfl
def PSame (k n : Int) (ps : Fo) : Prop := ∀ (k' n' : Int) (ps' : Fo) (w : World) (o : Option Addr) (len cap : Nat) (o' : Option Addr) (len' cap' : Nat), Slc w o len ps → Slc w o' len' ps' →
  Calls Tryd.prog 52 #[tyv k n o len cap, tyv k' n' o' len' cap'] w fun e w' => e = .returned (.bool (sameT k n ps k' n' ps')) ∧ Quiet0 w w'
set_option maxRecDepth 100000 in
set_option maxHeartbeats 2000000 in
theorem equalFunc_any (ps ps' : Fo) (ih : ∀ i k n qs, ps.get i = some (k, n, qs) → PSame k n qs) (w : World) (o : Option Addr) (len cap : Nat) (o' : Option Addr) (len' cap' : Nat) (hs : Slc w o len ps) (hs' : Slc w o' len' ps') :
    Calls Tryd.prog 94 #[.slice o len cap, .slice o' len' cap', .func (.func 52) #[] #[]] w fun e w' => e = .returned (.bool (ps.same ps')) ∧ Quiet0 w w' := by
  have HS := Lib.hid hs
  have HS' := Lib.hid hs'
  have IH := Lib.hid ih
  have HL := Lib.hid hs.1
  have HL' := Lib.hid hs'.1
  have hmx := hs.2.1
  unfold maxLen at hmx
  have eg := eg_same
  clear hs hs' ih
  obtain ⟨res, hres⟩ : ∃ res, res = ps.same ps' := ⟨_, rfl⟩
  have HRES := Lib.hid hres
  rw [← hres]
  clear hres
  by_cases hlen : len = len'
  · subst hlen
    have b3 : ((len : Int) != (len : Int)) = false := by simp
    go_enter Tryd.func94, Tryd.ntmps94
    go_wp2_with fail
    go_loopw [17] (fun t wr => ∃ (i : Nat), t = .int .i64 i ∧ i ≤ len ∧ res = (ps.drop i).same (ps'.drop i) ∧ Quiet0 w wr) (fun t _ => len - (intOf t).toNat)
    case atStart => exact ⟨0, rfl, Nat.zero_le _, by rw [Fo.drop_zero, Fo.drop_zero]; exact HRES.out, Quiet0.refl _⟩
    case round =>
      obtain ⟨i, rfl, hi, hr, hq⟩ := hrel
      have HR := Lib.hid hr
      have HQ := Lib.hid hq
      clear hr hq
      by_cases hlt : i < len
      · have hlt' : (i : Int) < len := by omega
        obtain ⟨b, off, k1, n1, qs1, o1, len1, cap1, rfl, hd1, hg1, e0, e1, e2, hs1⟩ := (HS.out.stay HQ.out).nth hlt
        obtain ⟨b2, off2, k2, n2, qs2, o2, len2, cap2, rfl, hd2, hg2, f0, f1, f2, hs2⟩ := (HS'.out.stay HQ.out).nth hlt
        have hbl := World.block_lt_of_cell? _ _ e0
        have hbl2 := World.block_lt_of_cell? _ _ f0
        have HC := Lib.hid (fun (W : World) (hq : Quiet0 wr W) => IH.out i k1 n1 qs1 hg1 k2 n2 qs2 W o1 len1 cap1 o2 len2 cap2 (hs1.stay hq) (hs2.stay hq))
        have HN : Hid (res = (sameT k1 n1 qs1 k2 n2 qs2 && (ps.drop (i + 1)).same (ps'.drop (i + 1)))) := by
          show _ = _
          rw [HR.out, hd1, hd2, same_cons]
        unfold tyv at HC
        clear hd1 hg1 hs1 hd2 hg2 hs2
        cases hb : sameT k1 n1 qs1 k2 n2 qs2
        all_goals
          have HBV := Lib.hid hb
          rw [hb] at HC
          clear hb
          go_wp2_with fail
          refine (HC.out _ ((Quiet0.alloc _ _).trans (Quiet0.alloc _ _))).mono ?_; rintro e w1 ⟨rfl, hq1⟩
          have HQ1 := Lib.hid (HQ.out.trans (((Quiet0.alloc _ _).trans (Quiet0.alloc _ _)).trans hq1))
          clear hq1
          go_wp2_with fail
        · go_ret
          exact ⟨by rw [HN.out, HBV.out]; rfl, HQ1.out⟩
        · go_roundw
          case rel => exact ⟨i + 1, by go_num, by omega, by rw [HN.out, HBV.out]; rfl, HQ1.out⟩
          case measure => simp [intOf]; omega
      · have hlt' : ¬ (i : Int) < len := by omega
        have HY : Hid (res = true) := by
          show _ = _
          rw [HR.out, Fo.drop_end ps i (by have := HL.out; omega), Fo.drop_end ps' i (by have := HL'.out; omega)]; rfl
        go_wp2_with fail
        go_ret
        exact ⟨by rw [HY.out]; rfl, HQ.out⟩
  · have HF : Hid (res = false) := by
      show _ = _
      rw [HRES.out]
      cases h : ps.same ps'
      · rfl
      · exact absurd (Fo.same_length _ _ h) (by have := HL.out; have := HL'.out; omega)
    have b3 : ((len : Int) != (len' : Int)) = true := by simp; omega
    go_enter Tryd.func94, Tryd.ntmps94
    go_wp2_with fail
    go_ret
    exact ⟨by rw [HF.out]; rfl, Quiet0.refl _⟩
set_option maxHeartbeats 1000000 in
theorem same_any (k n : Int) (ps : Fo) : PSame k n ps := by
  refine Fo.ind' (T := PSame) ?_ k n ps
  intro k n ps ih k' n' ps' w o len cap o' len' cap' hs hs'
  have HC := Lib.hid (fun (W : World) (hq : Quiet0 w W) => equalFunc_any ps ps' ih W o len cap o' len' cap' (hs.stay hq) (hs'.stay hq))
  unfold sameT
  clear hs hs' ih
  generalize ps.same ps' = r at *
  cases hk : (k == k')
  · unfold tyv
    go_enter Tryd.func52, Tryd.ntmps52
    go_wp2_with fail
    go_ret
    exact ⟨rfl, (Quiet0.alloc _ _).trans (Quiet0.alloc _ _)⟩
  · cases hn : (n == n')
    · unfold tyv
      go_enter Tryd.func52, Tryd.ntmps52
      go_wp2_with fail
      go_ret
      exact ⟨rfl, (Quiet0.alloc _ _).trans (Quiet0.alloc _ _)⟩
    · unfold tyv
      go_enter Tryd.func52, Tryd.ntmps52
      go_wp2_with fail
      refine (HC.out _ ((Quiet0.alloc _ _).trans (Quiet0.alloc _ _))).mono ?_; rintro e w1 ⟨rfl, hq1⟩
      go_wp2_with fail
      go_ret
      exact ⟨by simp, ((Quiet0.alloc _ _).trans (Quiet0.alloc _ _)).trans hq1⟩
end Go.Proofs.YtggidhgifaekbaaDoor
/-
  Does a substitution solve equations: the program and the reference. Conditions: the binds and the equations lie in memory as told; their numbers are in range; they are small.
-/
namespace Go.Proofs.YtggidhgifaekbaaDoor
open Go.RowKit Go.Maps

theorem with_st {w W w3 : World} {o : Option Addr} {len : Nat} {f : Fo} {G : Prop} (h : Slc w o len f) (hq : Quiet0 w W) (hqx : Quiet0 W w3) (k : Slc w3 o len f → G) : G := k (h.stay (hq.trans hqx))
def eqP (l : List Bd) (t : Eqn) : Bool := sameT (sK l t.1.1 t.1.2.1) (sN l t.1.1 t.1.2.1) (sP l t.1.1 t.1.2.1 t.1.2.2) (sK l t.2.1.1 t.2.1.2.1) (sN l t.2.1.1 t.2.1.2.1) (sP l t.2.1.1 t.2.1.2.1 t.2.1.2.2)
/-- the program's apply on a type that lies in memory -/
theorem apply_of (l : List Bd) (hl : ∀ t ∈ l, t.2.2.2.size ≤ 1000000) (k n : Int) (ps : Fo) (hz : ps.size ≤ 1000000) (hn : wfI n) (hw : wfF ps) (k' n' : Int) (ps' : Fo) (e1 : sK l k n = k') (e2 : sN l k n = n') (e3 : sP l k n ps = ps')
    (W : World) (o : Option Addr) (len cap b m : Nat) (q : Int → Option Value) (hm : MapT W b m q) (ht : TabAt W q (findB l)) (hs : Slc W o len ps) :
    Calls Tryd.prog 88 #[.map (some b), .agg #[.int .i64 k, .int .i64 n, .slice o len cap]] W fun e w' => ∃ o' len' cap', e = .returned (.agg #[.int .i64 k', .int .i64 n', .slice o' len' cap']) ∧ Slc w' o' len' ps' ∧ Quiet0 W w' := by
  subst e1 e2 e3
  refine (apply_any l hl k n ps W o len cap b m q hm ht hs hz hn hw).mono ?_
  rintro e w' ⟨o', len', cap', rfl, h1, h2⟩
  exact ⟨o', len', cap', rfl, h1.slc, h2⟩
theorem eg_solves : ∀ args w, (callFunc 87 args).run Tryd.prog w = .ok (.enter 87 args) w := enters_of Tryd.func87 (by kernel_rfl) rfl
set_option maxHeartbeats 4000000 in
set_option maxRecDepth 100000 in
theorem solves1_any (l : List Bd) (hl : ∀ t ∈ l, t.2.2.2.size ≤ 1000000) (w0 : World) (cs b m : Nat) (q : Int → Option Value) (h1 : Box1 w0 cs (.map (some b)) 94) (h2 : MapT w0 b m q) (h3 : TabAt w0 q (findB l)) (es : List Eqn)
    (hes : ∀ t ∈ es, (t.1.2.2.size ≤ 1000000 ∧ wfI t.1.2.1 ∧ wfF t.1.2.2) ∧ t.2.1.2.2.size ≤ 1000000 ∧ wfI t.2.1.2.1 ∧ wfF t.2.1.2.2) : PredEq 87 #[.pointer (some ⟨cs, 0, none⟩)] w0 es (fun t => !eqP l t) := by
  intro t ht W o1 l1 c1 o2 l2 c2 hq hs1 hs2
  obtain ⟨⟨z1, n1, f1⟩, z2, n2, f2⟩ := hes t ht
  have HA1 := Lib.hid (fun (W' : World) (h : Quiet0 W W') => apply_of l hl t.1.1 t.1.2.1 t.1.2.2 z1 n1 f1 _ _ _ rfl rfl rfl W' o1 l1 c1 b m q (h2.stay (hq.trans h)) (h3.stay (hq.trans h)) (hs1.stay h))
  have HA2 := Lib.hid (fun (W' : World) (h : Quiet0 W W') => apply_of l hl t.2.1.1 t.2.1.2.1 t.2.1.2.2 z2 n2 f2 _ _ _ rfl rfl rfl W' o2 l2 c2 b m q (h2.stay (hq.trans h)) (h3.stay (hq.trans h)) (hs2.stay h))
  show Calls _ _ _ W fun e W' => e = .returned (.bool (!eqP l t)) ∧ Quiet0 W W'
  unfold eqP eqv
  generalize sK l t.1.1 t.1.2.1 = k1 at *
  generalize sN l t.1.1 t.1.2.1 = n1' at *
  generalize sP l t.1.1 t.1.2.1 t.1.2.2 = p1 at *
  generalize sK l t.2.1.1 t.2.1.2.1 = k2 at *
  generalize sN l t.2.1.1 t.2.1.2.1 = n2' at *
  generalize sP l t.2.1.1 t.2.1.2.1 t.2.1.2.2 = p2 at *
  have HSM := Lib.hid (fun (W' : World) oa la ca ob lb cb (ha : Slc W' oa la p1) (hb : Slc W' ob lb p2) => same_any k1 n1' p1 k2 n2' p2 W' oa la ca ob lb cb ha hb)
  unfold tyv at HSM
  generalize sameT k1 n1' p1 k2 n2' p2 = sm at *
  generalize t.1.1 = ka at *
  generalize t.1.2.1 = na at *
  generalize t.2.1.1 = kb at *
  generalize t.2.1.2.1 = nb at *
  generalize t.2.2.1 = sa at *
  generalize t.2.2.2 = sb at *
  have HC := Lib.hid (fun (W' : World) (h : Quiet0 W W') => cell_of_one ((h1.fr hq (fun h => h)).fr h (fun h => h)))
  clear hs1 hs2 h1 h2 h3 hes ht z1 n1 f1 z2 n2 f2
  go_enter Tryd.func87, Tryd.ntmps87
  generalize hB : W.heap.size = B at *
  go_wp2_with fail
  obtain ⟨W0, hW0⟩ : ∃ W0, W0 = W.alloc (.cells #[.int .i64 ka, .int .i64 na, .slice o1 l1 c1, .int .i64 kb, .int .i64 nb, .slice o2 l2 c2, .int .i64 sa, .int .i64 sb] 93) := ⟨_, rfl⟩
  have HB : W0.heap[B]? = some (.cells #[.int .i64 ka, .int .i64 na, .slice o1 l1 c1, .int .i64 kb, .int .i64 nb, .slice o2 l2 c2, .int .i64 sa, .int .i64 sb] 93 (0, 0)) := by rw [hW0, ← hB]; exact heap_alloc_new _ _
  have HQ0 : Hid (Quiet0 W W0) := by rw [hW0]; exact Quiet0.alloc _ _
  have HBC : Hid (∀ w', Quiet0 W0 w' → w'.cell? ⟨cs, 0, none⟩ = some (.map (some b)) ∧ (w'.cell? ⟨B, 0, none⟩ = some (.int .i64 ka) ∧ w'.cell? ⟨B, 1, none⟩ = some (.int .i64 na) ∧ w'.cell? ⟨B, 2, none⟩ = some (.slice o1 l1 c1)) ∧ w'.cell? ⟨B, 3, none⟩ = some (.int .i64 kb) ∧ w'.cell? ⟨B, 4, none⟩ = some (.int .i64 nb) ∧ w'.cell? ⟨B, 5, none⟩ = some (.slice o2 l2 c2)) := by
    intro w' h
    have hb := blk_after h HB
    refine ⟨HC.out w' (HQ0.out.trans h), ⟨?_, ?_, ?_⟩, ?_, ?_, ?_⟩ <;> (rw [cell_of_row _ _ _ _ _ (0, 0) hb]; rfl)
  rw [← hW0]
  have hqc := Quiet0.refl W0
  obtain ⟨a0, ⟨a1, a2, a3⟩, a4, a5, a6⟩ := HBC.out W0 hqc
  clear hW0 HB hq hB
  go_region_held3 (fun w' => w'.cell? ⟨cs, 0, none⟩ = some (.map (some b)) ∧ (w'.cell? ⟨B, 0, none⟩ = some (.int .i64 ka) ∧ w'.cell? ⟨B, 1, none⟩ = some (.int .i64 na) ∧ w'.cell? ⟨B, 2, none⟩ = some (.slice o1 l1 c1)) ∧ w'.cell? ⟨B, 3, none⟩ = some (.int .i64 kb) ∧ w'.cell? ⟨B, 4, none⟩ = some (.int .i64 nb) ∧ w'.cell? ⟨B, 5, none⟩ = some (.slice o2 l2 c2))
    (((refine HBC.out _ ?_); (repeat (first | with_reducible exact hqc | with_reducible exact Quiet0.refl _ | with_reducible refine Quiet0.trans ?_ (Quiet0.alloc _ _) | with_reducible refine Quiet0.trans ?_ (Quiet0.drew _) | fail))))
    (first
      | (go_at_call 88; (with_reducible refine Calls.mono (HA1.out _ (HQ0.out.trans ?hq)) ?_); (case hq => (repeat (first | with_reducible exact hqc | with_reducible exact Quiet0.refl _ | with_reducible refine Quiet0.trans ?_ (Quiet0.alloc _ _) | with_reducible refine Quiet0.trans ?_ (Quiet0.drew _) | fail))); rintro e wx ⟨oa, la, ca, rfl, hsa, hqx⟩; (try (refine with_st hsb ?hq3 hqx ?_; (case hq3 => (repeat (first | with_reducible exact Quiet0.refl _ | with_reducible refine Quiet0.trans ?_ (Quiet0.alloc _ _) | with_reducible refine Quiet0.trans ?_ (Quiet0.drew _) | fail))); intro hsb)); (refine with_q (w0 := W0) ?hq2 hqx ?_); (case hq2 => (repeat (first | with_reducible exact hqc | with_reducible exact Quiet0.refl _ | with_reducible refine Quiet0.trans ?_ (Quiet0.alloc _ _) | with_reducible refine Quiet0.trans ?_ (Quiet0.drew _) | fail))); intro hqc)
      | (go_at_call 88; (with_reducible refine Calls.mono (HA2.out _ (HQ0.out.trans ?hq)) ?_); (case hq => (repeat (first | with_reducible exact hqc | with_reducible exact Quiet0.refl _ | with_reducible refine Quiet0.trans ?_ (Quiet0.alloc _ _) | with_reducible refine Quiet0.trans ?_ (Quiet0.drew _) | fail))); rintro e wx ⟨ob, lb, cb, rfl, hsb, hqx⟩; (try (refine with_st hsa ?hq3 hqx ?_; (case hq3 => (repeat (first | with_reducible exact Quiet0.refl _ | with_reducible refine Quiet0.trans ?_ (Quiet0.alloc _ _) | with_reducible refine Quiet0.trans ?_ (Quiet0.drew _) | fail))); intro hsa)); (refine with_q (w0 := W0) ?hq2 hqx ?_); (case hq2 => (repeat (first | with_reducible exact hqc | with_reducible exact Quiet0.refl _ | with_reducible refine Quiet0.trans ?_ (Quiet0.alloc _ _) | with_reducible refine Quiet0.trans ?_ (Quiet0.drew _) | fail))); intro hqc)
      | (go_at_call 52; (with_reducible refine Calls.mono (HSM.out _ _ _ _ _ _ _ (hsa.stay ?h1) (hsb.stay ?h2)) ?_); ((case h1 => (repeat (first | with_reducible exact Quiet0.refl _ | with_reducible refine Quiet0.trans ?_ (Quiet0.alloc _ _) | with_reducible refine Quiet0.trans ?_ (Quiet0.drew _) | fail))); (case h2 => (repeat (first | with_reducible exact Quiet0.refl _ | with_reducible refine Quiet0.trans ?_ (Quiet0.alloc _ _) | with_reducible refine Quiet0.trans ?_ (Quiet0.drew _) | fail)))); rintro e wx ⟨rfl, hqx⟩; (refine with_q (w0 := W0) ?hq2 hqx ?_); (case hq2 => (repeat (first | with_reducible exact hqc | with_reducible exact Quiet0.refl _ | with_reducible refine Quiet0.trans ?_ (Quiet0.alloc _ _) | with_reducible refine Quiet0.trans ?_ (Quiet0.drew _) | fail))); intro hqc)
      | fail)
  all_goals
    go_wp2_with fail
    go_ret
    exact ⟨rfl, HQ0.out.trans hqc⟩
set_option maxHeartbeats 4000000 in
set_option maxRecDepth 100000 in
theorem solves_any (l : List Bd) (es : List Eqn) (w : World) (o : Option Addr) (cap : Nat) (oe : Option Addr) (cape : Nat) (hs : BindsAt w o l) (he : EqsAt w oe es) (hw : ∀ t ∈ l, wfI t.1) (hz : l.length ≤ 100000) (hze : es.length ≤ 100000) (hl : ∀ t ∈ l, t.2.2.2.size ≤ 1000000)
    (hes : ∀ t ∈ es, (t.1.2.2.size ≤ 1000000 ∧ wfI t.1.2.1 ∧ wfF t.1.2.2) ∧ t.2.1.2.2.size ≤ 1000000 ∧ wfI t.2.1.2.1 ∧ wfF t.2.1.2.2) :
    Calls Tryd.prog 41 #[.slice o l.length cap, .slice oe es.length cape] w fun e w' => e = .returned (.bool (es.all (eqP l))) ∧ Quiet0 w w' := by
  have HT := Lib.hid (table_any l w o cap hs hw hz)
  have HE := Lib.hid he
  have HL := Lib.hid hl
  have HES := Lib.hid hes
  have HR : Hid (es.all (eqP l) = !(es.any (fun t => !eqP l t))) := by show _ = _; rw [List.not_any_eq_all_not]; simp
  rw [HR.out]
  obtain ⟨r, hr⟩ : ∃ r, r = es.any (fun t => !eqP l t) := ⟨_, rfl⟩
  have HRR := Lib.hid hr
  rw [← hr]
  clear hs he hw hl hes hr HR
  go_enter Tryd.func41, Tryd.ntmps41
  go_wp2_with fail
  refine HT.out.mono ?_; rintro e w1 ⟨b, m, q, rfl, hb, hm, ht, hq⟩
  have HCF := Lib.hid (containsEq_any 87 #[.pointer (some ⟨w1.heap.size, 0, none⟩)] (fun t => !eqP l t) eg_solves es oe cape (w1.alloc (.cells #[.map (some b)] 94)) (HE.out.stay (hq.trans (Quiet0.alloc _ _)))
    (solves1_any l HL.out (w1.alloc (.cells #[.map (some b)] 94)) w1.heap.size b m q (Box1.new w1 _ _) (hm.stay (Quiet0.alloc _ _)) (ht.stay (Quiet0.alloc _ _)) es HES.out) (by omega))
  rw [← HRR.out] at HCF
  have HQ1 := Lib.hid hq
  clear hb hm ht hq
  go_wp2_with fail
  refine HCF.out.mono ?_; rintro e w2 ⟨rfl, hq2⟩
  go_wp2_with fail
  go_ret
  exact ⟨rfl, (HQ1.out.trans (Quiet0.alloc _ _)).trans hq2⟩
end Go.Proofs.YtggidhgifaekbaaDoor
/-
  types.Print. Conditions: as TyText's.
-/
namespace Go.Proofs.YtggidhgifaekbaaDoor
open Go.RowKit

def printT (k n : Int) (ps : Fo) : List UInt8 := if rightT k n ps then txt k n ps.texts else []
set_option maxHeartbeats 1000000 in
theorem print_of (k n : Int) (ps : Fo) (HTX : TText k n ps) (w : World) (o : Option Addr) (len cap : Nat) (hs : Slc w o len ps) (hsz : ps.size ≤ 1000) (ht : Pow10 w) :
    Calls Tryd.prog 17 #[tyv k n o len cap] w fun e w' => e = .returned (.string (tb (printT k n ps))) ∧ Quiet0 w w' := by
  have HS := Lib.hid hs
  have HT := Lib.hid ht
  have HX := Lib.hid HTX
  obtain ⟨W0, hW0⟩ : ∃ W0, W0 = w.alloc (.cells #[.int .i64 k, .int .i64 n, .slice o len cap] 24) := ⟨_, rfl⟩
  have hq0 : Quiet0 w W0 := by rw [hW0]; exact Quiet0.alloc _ _
  have HQ0 := Lib.hid hq0
  have HR := Lib.hid (right_any k n ps W0 o len cap (hs.stay hq0))
  obtain ⟨a0, a1, a2⟩ := box_cells w k n o len cap 24 W0 (by rw [hW0]; exact Quiet0.refl _)
  clear hs ht HTX hq0
  unfold printT
  cases hr : rightT k n ps
  · rw [hr] at HR
    have e : tb (if false = true then txt k n ps.texts else []) = ⟨#[]⟩ := rfl
    rw [e]
    unfold tyv at *
    go_enter Tryd.func17, Tryd.ntmps17
    go_wp2_with fail
    rw [← hW0]
    refine HR.out.mono ?_; rintro e w1 ⟨rfl, hq1⟩
    have HQ1 := Lib.hid hq1
    clear hq1
    go_wp2_with fail
    go_ret
    exact ⟨rfl, HQ0.out.trans HQ1.out⟩
  · have hp : Fo.plain k n ps.length = true ∧ ps.right = true := by
      simpa [rightT] using hr
    have HP := Lib.hid hp
    rw [hr] at HR
    have e : (if true = true then txt k n ps.texts else []) = txt k n ps.texts := rfl
    rw [e]
    have HX2 : Hid (∀ W, Quiet0 w W → Calls Tryd.prog 70 #[tyv k n o len cap] W fun e w' => e = .returned (.string (tb (txt k n ps.texts))) ∧ Quiet0 W w') :=
      fun W hq => HX.out W o len cap (HS.out.stay hq) HP.out.1 HP.out.2 hsz (HT.out.stay hq)
    generalize tb (txt k n ps.texts) = s at *
    unfold tyv at *
    clear hp e
    go_enter Tryd.func17, Tryd.ntmps17
    go_wp2_with fail
    rw [← hW0]
    refine HR.out.mono ?_; rintro e w1 ⟨rfl, hq1⟩
    have HQ1 := Lib.hid hq1
    have b0 := hq1.at a0
    have b1 := hq1.at a1
    have b2 := hq1.at a2
    clear hq1
    go_wp2_with fail
    refine (HX2.out _ (HQ0.out.trans HQ1.out)).mono ?_; rintro e w2 ⟨rfl, hq2⟩
    go_wp2_with fail
    go_ret
    exact ⟨rfl, (HQ0.out.trans HQ1.out).trans hq2⟩
theorem print_any (k n : Int) (ps : Fo) (w : World) (o : Option Addr) (len cap : Nat) (hs : Slc w o len ps) (hsz : ps.size ≤ 1000) (ht : Pow10 w) :
    Calls Tryd.prog 17 #[tyv k n o len cap] w fun e w' => e = .returned (.string (tb (printT k n ps))) ∧ Quiet0 w w' :=
  print_of k n ps (text_any k n ps) w o len cap hs hsz ht
end Go.Proofs.YtggidhgifaekbaaDoor
/-
  The program's Apply; the document's example of chapter 10. Conditions: what is in memory is as told.
-/
namespace Go.Proofs.YtggidhgifaekbaaDoor
open Go.RowKit Go.Maps

theorem Quiet0.fr {S : Nat → Prop} {w w' : World} (h : Quiet0 w w') : Fr S w w' := h.mono (fun _ _ h => h.elim)
theorem with_frq {S : Nat → Prop} {w0 W w3 : World} {G : Prop} (h : Fr S w0 W) (hq : Quiet0 W w3) (k : Fr S w0 w3 → G) : G := k (h.trans hq.fr)
set_option maxHeartbeats 4000000 in
set_option maxRecDepth 100000 in
theorem applyT_any (l : List Bd) (k n : Int) (ps : Fo) (w : World) (o : Option Addr) (cap : Nat) (ot : Option Addr) (lent capt : Nat) (hs : BindsAt w o l) (hst : Slc w ot lent ps) (hw : ∀ t ∈ l, wfI t.1) (hz : l.length ≤ 100000) (hl : ∀ t ∈ l, t.2.2.2.size ≤ 1000000)
    (hsz : ps.size ≤ 1000000) (hn : wfI n) (hwf : wfF ps) (k' n' : Int) (ps' : Fo) (e1 : sK l k n = k') (e2 : sN l k n = n') (e3 : sP l k n ps = ps') :
    Calls Tryd.prog 57 #[.slice o l.length cap, .agg #[.int .i64 k, .int .i64 n, .slice ot lent capt]] w fun e w' => ∃ o' len' cap', e = .returned (.agg #[.int .i64 k', .int .i64 n', .slice o' len' cap']) ∧ SlcIn (fun b => w.heap.size ≤ b) w' o' len' ps' ∧ Quiet0 w w' := by
  have HT := Lib.hid (fun (W : World) (hq : Quiet0 w W) => table_any l W o cap (hs.stay hq) hw hz)
  have HA : Hid (∀ W b m q, Quiet0 w W → MapT W b m q → TabAt W q (findB l) → Calls Tryd.prog 88 #[.map (some b), .agg #[.int .i64 k, .int .i64 n, .slice ot lent capt]] W fun e w' => ∃ o' len' cap', e = .returned (.agg #[.int .i64 k', .int .i64 n', .slice o' len' cap']) ∧ SlcIn (fun b => W.heap.size ≤ b) w' o' len' ps' ∧ Quiet0 W w') := by
    intro W b m q hq hm ht
    subst e1 e2 e3
    refine (apply_any l hl k n ps W ot lent capt b m q hm ht (hst.stay hq) hsz hn hwf).mono ?_
    rintro e w' ⟨o', len', cap', rfl, h1, h2⟩
    exact ⟨o', len', cap', rfl, h1, h2⟩
  clear hs hst hw hl hn hwf e1 e2 e3
  obtain ⟨W1, hW1⟩ : ∃ W1, W1 = (w.alloc (.cells #[.int .i64 k, .int .i64 n, .slice ot lent capt] 24)).alloc (.cells #[.int .i64 0, .int .i64 0, .slice none 0 0] 24) := ⟨_, rfl⟩
  have HQ1 : Hid (Quiet0 w W1) := by rw [hW1]; exact (Quiet0.alloc _ _).trans (Quiet0.alloc _ _)
  have HB0 : Hid (W1.heap[w.heap.size]? = some (.cells #[.int .i64 k, .int .i64 n, .slice ot lent capt] 24 (0, 0))) := by rw [hW1]; exact box_after (heap_alloc_new w _) (Quiet0.alloc _ _)
  have HB1 : Hid (W1.heap[w.heap.size + 1]? = some (.cells #[.int .i64 0, .int .i64 0, .slice none 0 0] 24 (0, 0))) := by
    rw [hW1, show w.heap.size + 1 = (w.alloc (.cells #[.int .i64 k, .int .i64 n, .slice ot lent capt] 24)).heap.size from by simp]; exact heap_alloc_new _ _
  go_enter Tryd.func57, Tryd.ntmps57
  go_upto_region 1 with fail
  rw [← hW1]
  clear hW1
  generalize hB : w.heap.size = B at *
  have HBE := Lib.hid hB
  clear hB
  have hqc := Quiet0.refl W1
  have HBC : Hid (∀ w', Fr (fun j => B < j) W1 w' → w'.cell? ⟨B, 0, none⟩ = some (.int .i64 k) ∧ w'.cell? ⟨B, 1, none⟩ = some (.int .i64 n) ∧ w'.cell? ⟨B, 2, none⟩ = some (.slice ot lent capt)) := by
    intro w' h
    have hb : w'.heap[B]? = some (.cells #[.int .i64 k, .int .i64 n, .slice ot lent capt] 24 (0, 0)) := by rw [h.block B (lt_of_block HB0.out) (fun h => by omega)]; exact HB0.out
    obtain ⟨a0, a1, a2, _⟩ := box_cells3 hb
    exact ⟨a0, a1, a2⟩
  obtain ⟨a0, a1, a2⟩ := HBC.out W1 (Fr.refl _ _)
  go_region_held3 (fun w' => w'.cell? ⟨B, 0, none⟩ = some (.int .i64 k) ∧ w'.cell? ⟨B, 1, none⟩ = some (.int .i64 n) ∧ w'.cell? ⟨B, 2, none⟩ = some (.slice ot lent capt))
    (((refine HBC.out _ ?_); (repeat (first | with_reducible exact HFR | with_reducible exact Quiet0.fr hqc | with_reducible exact Fr.refl _ _ | with_reducible refine Fr.trans ?_ (Fr.alloc _ _ _) | with_reducible refine Fr.trans ?_ (Fr.drew _ _) | ((with_reducible refine Fr.trans ?_ (Fr.setCell _ _ _ _ ?hsd)); (case hsd => (simp <;> omega))) | fail))))
    (first
      | (go_at_call 85; (with_reducible refine Calls.mono (HT.out _ (HQ1.out.trans ?hq)) ?_); (case hq => (repeat (first | with_reducible exact hqc | with_reducible exact Quiet0.refl _ | with_reducible refine Quiet0.trans ?_ (Quiet0.alloc _ _) | with_reducible refine Quiet0.trans ?_ (Quiet0.drew _) | fail))); rintro e wx ⟨b, m, q, rfl, hb, hm, ht, hqx⟩; (refine with_q (w0 := W1) ?hq2 hqx ?_); (case hq2 => (repeat (first | with_reducible exact hqc | with_reducible exact Quiet0.refl _ | with_reducible refine Quiet0.trans ?_ (Quiet0.alloc _ _) | with_reducible refine Quiet0.trans ?_ (Quiet0.drew _) | fail))); intro hqc)
      | (go_at_call 88; (with_reducible refine Calls.mono (HA.out _ _ _ _ (HQ1.out.trans ?hq) hm ht) ?_); (case hq => (repeat (first | with_reducible exact hqc | with_reducible exact Quiet0.refl _ | with_reducible refine Quiet0.trans ?_ (Quiet0.alloc _ _) | with_reducible refine Quiet0.trans ?_ (Quiet0.drew _) | fail))); rintro e wx ⟨oa, la, ca, rfl, hsa, hqx⟩; ((have HZ9 := Lib.hid hqc.size); (refine box_use (box_after HB1.out (hqc.trans hqx)) ?_; intro f0 f1 f2 y0 y1 y2 hzz)); (refine with_q (w0 := W1) ?hq2 hqx ?_); (case hq2 => (repeat (first | with_reducible exact hqc | with_reducible exact Quiet0.refl _ | with_reducible refine Quiet0.trans ?_ (Quiet0.alloc _ _) | with_reducible refine Quiet0.trans ?_ (Quiet0.drew _) | fail))); intro hqc)
      | fail)
  go_wp2_with fail
  have hf := put3_fr wx (B + 1) (.int .i64 k') (.int .i64 n') (.slice oa la ca)
  obtain ⟨g0, g1, g2⟩ := put3_cells (a := .int .i64 k') (b := .int .i64 n') (c := .slice oa la ca) hzz
  change bodyPost _ _ _ _ _ (put3 wx (B + 1) (.int .i64 k') (.int .i64 n') (.slice oa la ca))
  have hq1 := HQ1.out.size
  have hz1 := hqx.size
  have hz9 := HZ9.out
  have hz2 := hqc.size
  have hz3 : w.heap.size = B := HBE.out
  have hlb1 := lt_of_block HB1.out
  have HSA := Lib.hid hsa
  have HQC := Lib.hid hqc
  clear hsa hm ht hb
  generalize put3 wx (B + 1) (.int .i64 k') (.int .i64 n') (.slice oa la ca) = wf at *
  refine bodyPost_ret (by simp [results, Tryd.results57, go_sem, g0, g1, g2]; rfl) rfl ?_
  refine ⟨oa, la, ca, rfl, HSA.out.fr hf ?_, ?_⟩
  · intro j hj1 hj
    have hj' : _ ≤ j := hj
    exact ⟨by show w.heap.size ≤ j; omega, fun h => by have h' : j = B + 1 := h; omega⟩
  · exact Fr.trans' (HQ1.out.trans HQC.out) hf (fun i hi h => by have h' : i = B + 1 := h; omega)
set_option maxHeartbeats 4000000 in
set_option maxRecDepth 100000 in
theorem awake10_any (w : World) (ht : Pow10 w) : Calls Tryd.prog 40 #[] w fun e w' => e = .returned (.bool true) ∧ Quiet0 w w' := by
  have HT := Lib.hid ht
  have HV := Lib.hid (fun n => var_any n)
  clear ht
  obtain ⟨PA, hPA⟩ : ∃ PA : Fo, PA = .cons 1 0 .nil (.cons 1 1 .nil .nil) := ⟨_, rfl⟩
  obtain ⟨PR, hPR⟩ : ∃ PR : Fo, PR = .cons 2 0 .nil (.cons 1 1 .nil .nil) := ⟨_, rfl⟩
  have HA1 : Hid (∀ W b, W.heap[b]? = some (.cells #[.int .i64 1, .int .i64 0, .slice none 0 0, .int .i64 1, .int .i64 1, .slice none 0 0] 24 (0, 0)) → Calls Tryd.prog 20 #[.slice (some ⟨b, 0, none⟩) 2 2] W fun e w' => ∃ o' cap', e = .returned (.agg #[.int .i64 4, .int .i64 0, .slice o' 2 cap']) ∧ Slc w' o' 2 PA ∧ Quiet0 W w') := by
    intro W b hb; rw [hPA]
    refine (arrow2 W b 1 0 none 0 0 .nil 1 1 none 0 0 .nil hb (Slc.nil _ _) (Slc.nil _ _) (by simp [Fo.size])).mono ?_
    rintro e w' ⟨o', c', rfl, hs, hq⟩
    exact ⟨o', c', rfl, hs.slc, hq⟩
  have HAP : Hid (∀ W b o c, W.heap[b]? = some (.cells #[.int .i64 0, .int .i64 2, .int .i64 0, .slice none 0 0] 91 (0, 0)) → Slc W o 2 PA → Calls Tryd.prog 57 #[.slice (some ⟨b, 0, none⟩) 1 1, .agg #[.int .i64 4, .int .i64 0, .slice o 2 c]] W fun e w' => ∃ o' cap', e = .returned (.agg #[.int .i64 4, .int .i64 0, .slice o' 2 cap']) ∧ Slc w' o' 2 PR ∧ Quiet0 W w') := by
    intro W b o c hb hs
    have hbd : BindsAt W (some ⟨b, 0, none⟩) [(0, 2, 0, .nil)] := by
      intro i t ht
      match i, ht with
      | 0, ht =>
        simp at ht
        subst ht
        exact ⟨b, 0, none, 0, 0, rfl, by rw [cell_of_row _ _ _ _ _ (0, 0) hb]; rfl, by rw [cell_of_row _ _ _ _ _ (0, 0) hb]; rfl, by rw [cell_of_row _ _ _ _ _ (0, 0) hb]; rfl, by rw [cell_of_row _ _ _ _ _ (0, 0) hb]; rfl, Slc.nil _ _⟩
      | i + 1, ht => simp at ht
    have h := applyT_any [(0, 2, 0, .nil)] 4 0 PA W (some ⟨b, 0, none⟩) 1 o 2 c hbd hs (by intro t ht; simp at ht; subst ht; exact wfI_of (by omega) (by omega)) (by simp) (by intro t ht; simp at ht; subst ht; simp [Fo.size])
      (by rw [hPA]; simp [Fo.size]) (wfI_of (by omega) (by omega)) (by rw [hPA]; exact ⟨wfI_of (by omega) (by omega), trivial, wfI_of (by omega) (by omega), trivial, trivial⟩) 4 0 PR rfl rfl (by rw [hPA, hPR]; rfl)
    refine h.mono ?_
    rintro e w' ⟨o', l', c', rfl, h1, h2⟩
    have hl : l' = 2 := by have := h1.1; rw [hPR] at this; exact this
    subst hl
    exact ⟨o', c', rfl, h1.slc, h2⟩
  have HP : Hid (∀ W o cap, Slc W o 2 PR → Pow10 W → Calls Tryd.prog 17 #[.agg #[.int .i64 4, .int .i64 0, .slice o 2 cap]] W fun e w' => e = .returned (.string ⟨#[105, 110, 116, 32, 45, 62, 32, 39, 98]⟩) ∧ Quiet0 W w') := by
    intro W o cap hs hp
    have h := print_any 4 0 PR W o 2 cap hs (by rw [hPR]; simp [Fo.size]) hp
    have e : tb (printT 4 0 PR) = ⟨#[105, 110, 116, 32, 45, 62, 32, 39, 98]⟩ := by rw [hPR]; rfl
    rw [e] at h; exact h
  clear hPA hPR
  unfold tyv at *
  go_enter Tryd.func40, Tryd.ntmps40
  go_wp2_with fail
  generalize hB : w.heap.size = B at *
  obtain ⟨W0, hW0⟩ : ∃ W0, W0 = w.alloc (.cells #[.int .i64 0, .int .i64 2, .int .i64 0, .slice none 0 0] 91) := ⟨_, rfl⟩
  have HB : Hid (W0.heap[B]? = some (.cells #[.int .i64 0, .int .i64 2, .int .i64 0, .slice none 0 0] 91 (0, 0))) := by rw [hW0, ← hB]; exact heap_alloc_new _ _
  have HQ0 : Hid (Quiet0 w W0) := by rw [hW0]; exact Quiet0.alloc _ _
  rw [← hW0]
  clear hW0 hB
  refine (HV.out 0 _).mono ?_; rintro e w1 ⟨rfl, hq1⟩
  have HQ1 := Lib.hid hq1
  clear hq1
  go_wp2_with fail
  refine (HV.out 1 _).mono ?_; rintro e w2 ⟨rfl, hq2⟩
  have HQ2 := Lib.hid (HQ1.out.trans hq2)
  clear hq2
  go_wp2_with fail
  refine (HA1.out _ _ (heap_alloc_new _ _)).mono ?_; rintro e w3 ⟨oa, ca, rfl, hsa, hq3⟩
  have HQ3 := Lib.hid ((HQ2.out.trans (Quiet0.alloc _ _)).trans hq3)
  have HSA := Lib.hid hsa
  clear hq3 hsa
  go_wp2_with fail
  refine (HAP.out _ _ _ _ (blk_after HQ3.out HB.out) HSA.out).mono ?_; rintro e w4 ⟨or, cr, rfl, hsr, hq4⟩
  have HQ4 := Lib.hid (HQ3.out.trans hq4)
  have HSR := Lib.hid hsr
  clear hq4 hsr
  go_wp2_with fail
  refine (HP.out _ _ _ (HSR.out.stay (Quiet0.alloc _ _)) (HT.out.stay ((HQ0.out.trans HQ4.out).trans (Quiet0.alloc _ _)))).mono ?_; rintro e w5 ⟨rfl, hq5⟩
  go_wp2_with fail
  go_ret
  exact ⟨rfl, ((HQ0.out.trans HQ4.out).trans (Quiet0.alloc _ _)).trans hq5⟩
end Go.Proofs.YtggidhgifaekbaaDoor
/-
  The program's Only. Conditions: the rows lie in memory as told; numbers are in range; all is small.
-/
namespace Go.Proofs.YtggidhgifaekbaaDoor
open Go.RowKit Go.Maps

theorem bind_cells {w : World} {B : Nat} {v k n : Int} {o : Option Addr} {len cap : Nat} (h : w.heap[B]? = some (.cells #[.int .i64 v, .int .i64 k, .int .i64 n, .slice o len cap] 91 (0, 0))) :
    w.cell? ⟨B, 0, none⟩ = some (.int .i64 v) ∧ w.cell? ⟨B, 1, none⟩ = some (.int .i64 k) ∧ w.cell? ⟨B, 2, none⟩ = some (.int .i64 n) ∧ w.cell? ⟨B, 3, none⟩ = some (.slice o len cap) := by
  refine ⟨?_, ?_, ?_, ?_⟩ <;> (rw [cell_of_row _ _ _ _ _ (0, 0) h]; rfl)
/-- types.Copy on a type that lies in memory -/
theorem copy_of (k n : Int) (ps : Fo) (hz : ps.size ≤ 1000000) (W : World) (o : Option Addr) (len cap : Nat) (hs : Slc W o len ps) :
    Calls Tryd.prog 53 #[.agg #[.int .i64 k, .int .i64 n, .slice o len cap]] W fun e w' => ∃ o' cap', e = .returned (.agg #[.int .i64 k, .int .i64 n, .slice o' len cap']) ∧ SlcIn (fun b => W.heap.size ≤ b) w' o' len ps ∧ Quiet0 W w' := by
  refine (copy_any k n ps W o len cap hs hz).mono ?_
  rintro e w' ⟨o', c', rfl, h1, h2⟩
  exact ⟨o', c', rfl, h1, h2⟩
set_option maxHeartbeats 4000000 in
set_option maxRecDepth 100000 in
theorem suOnly_any (l : List Bd) (vars : List Int) (w : World) (o : Option Addr) (cap : Nat) (ov : Option Addr) (capv : Nat) (hs : BindsAt w o l) (hv : IntsAt w ov vars) (hw : ∀ t ∈ l, wfI t.1) (hz : l.length ≤ 100000) (hzv : vars.length ≤ 100000) (hl : ∀ t ∈ l, t.2.2.2.size ≤ 1000000) :
    Calls Tryd.prog 66 #[.slice o l.length cap, .slice ov vars.length capv] w fun e w' => ∃ a c, e = .returned (.slice a (onlyB l vars).length c) ∧ BindsAt w' a (onlyB l vars) ∧ Quiet0 w w' := by
  have HC := Lib.hid (count_any l w o cap hs hw hz)
  have HV := Lib.hid hv
  have HL : Hid (∀ t ∈ firstB l, t.2.2.2.size ≤ 1000000) := fun t ht => by
    rcases first_sub l [] t ht with h | h
    · simp at h
    · exact hl t h
  have hfl2 : (firstB l).length ≤ 100000 := Nat.le_trans (first_length l) hz
  unfold onlyB
  generalize firstB l = F at *
  obtain ⟨X, hX⟩ : ∃ X, X = F.filter (fun t => inB vars t.1) := ⟨_, rfl⟩
  rw [← hX]
  have HX := Lib.hid hX
  clear hs hv hw hl hX
  go_enter Tryd.func66, Tryd.ntmps66
  go_wp2_with fail
  refine HC.out.mono ?_; rintro e w1 ⟨a, c, rfl, hb, hq1⟩
  have HB := Lib.hid hb
  have HQ1 := Lib.hid hq1
  clear hb hq1
  go_wp2_with fail
  go_loopw [5, 11] (fun v t wr => ∃ (i n : Nat) (xs : List Value) (vo : Option Addr) (vc : Nat), t = .int .i64 i ∧ i ≤ F.length ∧ v = .slice vo n vc ∧ ((F.take i).filter (fun t => inB vars t.1)).length = n ∧ BdRow wr w1.heap.size (.slice vo n vc) ((F.take i).filter (fun t => inB vars t.1)) xs ∧ Quiet0 w1 wr) (fun _ t _ => F.length - (intOf t).toNat)
  case atStart => exact ⟨0, 0, [], none, 0, rfl, Nat.zero_le _, rfl, rfl, BdRow.nil _ _, Quiet0.refl _⟩
  case round =>
    obtain ⟨i, n, xs, vo, vc, rfl, hi, rfl, hn, hrow, hq⟩ := hrel
    have HN := Lib.hid hn
    have HR := Lib.hid hrow
    have HQ := Lib.hid hq
    have hnb : n ≤ 100000 := by rw [← hn]; have := List.length_filter_le (fun t : Bd => inB vars t.1) (F.take i); rw [List.length_take] at this; omega
    clear hn hrow hq
    by_cases hlt : i < F.length
    · have hlt' : (i : Int) < F.length := by omega
      obtain ⟨t, ht⟩ : ∃ t, F[i]? = some t := ⟨_, List.getElem?_eq_getElem hlt⟩
      have hz1 := HL.out t (List.mem_of_getElem? ht)
      obtain ⟨b, off, o1, len1, cap1, rfl, e0, e1, e2, e3, hs1⟩ := HB.out.stay HQ.out i t ht
      have HNT : Hid ((F.take (i + 1)).filter (fun t => inB vars t.1) = (F.take i).filter (fun t => inB vars t.1) ++ if inB vars t.1 then [t] else []) := by
        show _ = _
        rw [List.take_add_one, ht, List.filter_append]
        cases h : inB vars t.1 <;> simp [h]
      obtain ⟨v, kk, nn, pp⟩ := t
      simp only at e0 e1 e2 e3 hs1 hz1 HNT
      obtain ⟨WB, hWB⟩ : ∃ WB, WB = wr.alloc (.cells #[.int .i64 v, .int .i64 kk, .int .i64 nn, .slice o1 len1 cap1] 91) := ⟨_, rfl⟩
      obtain ⟨BB, hBB⟩ : ∃ BB, BB = wr.heap.size := ⟨_, rfl⟩
      have HBB := Lib.hid hBB
      have HBX : Hid (WB.heap[BB]? = some (.cells #[.int .i64 v, .int .i64 kk, .int .i64 nn, .slice o1 len1 cap1] 91 (0, 0))) := by rw [hWB, hBB]; exact heap_alloc_new _ _
      have HQB : Hid (Quiet0 wr WB) := by rw [hWB]; exact Quiet0.alloc _ _
      have HCV := Lib.hid (fun (W : World) (h : Quiet0 w W) => containsV_any v vars ov capv W (HV.out.stay h) (by omega))
      have HCP := Lib.hid (fun (W : World) (h : Quiet0 wr W) => copy_of kk nn pp hz1 W o1 len1 cap1 (hs1.stay h))
      cases hin : inB vars v
      · rw [hin] at HCV HNT
        have HNT2 : Hid ((F.take (i + 1)).filter (fun t => inB vars t.1) = (F.take i).filter (fun t => inB vars t.1)) := by
          show _ = _
          rw [HNT.out]; simp
        clear ht hs1 hz1 hin
        go_upto_region 5 with fail
        change Code.wp _ _ _ _ (wr.alloc (.cells #[.int .i64 v, .int .i64 kk, .int .i64 nn, .slice o1 len1 cap1] 91))
        rw [← hWB, ← hBB]
        clear hWB hBB e0 e1 e2 e3
        obtain ⟨c0, c1, c2, c3⟩ := bind_cells HBX.out
        go_wp2_with fail
        refine (HCV.out _ ((HQ1.out.trans HQ.out).trans HQB.out)).mono ?_; rintro e w3 ⟨rfl, hq3⟩
        have HQ3 := Lib.hid (HQB.out.trans hq3)
        clear hq3 c0 c1 c2 c3
        go_wp2_with fail
        go_roundw
        case rel => exact ⟨i + 1, n, xs, vo, vc, by go_num, by omega, rfl, by rw [HNT2.out]; exact HN.out, by rw [HNT2.out]; exact HR.out.stay HQ3.out, HQ.out.trans HQ3.out⟩
        case measure => simp [intOf]; omega
      · rw [hin] at HCV HNT
        have HNT2 : Hid ((F.take (i + 1)).filter (fun t => inB vars t.1) = (F.take i).filter (fun t => inB vars t.1) ++ [(v, kk, nn, pp)]) := by
          show _ = _
          rw [HNT.out]; simp
        clear ht hs1 hz1 hin
        go_upto_region 5 with fail
        change Code.wp _ _ _ _ (wr.alloc (.cells #[.int .i64 v, .int .i64 kk, .int .i64 nn, .slice o1 len1 cap1] 91))
        rw [← hWB, ← hBB]
        clear hWB hBB e0 e1 e2 e3
        obtain ⟨c0, c1, c2, c3⟩ := bind_cells HBX.out
        go_wp2_with fail
        refine (HCV.out _ ((HQ1.out.trans HQ.out).trans HQB.out)).mono ?_; rintro e w3 ⟨rfl, hq3⟩
        have HQ3 := Lib.hid (HQB.out.trans hq3)
        have HBX3 := Lib.hid (blk_after hq3 HBX.out)
        have HBC : Hid (∀ w', Fr (fun j => (Value.slice vo n vc).ownBlock = some j) w3 w' → w'.cell? ⟨BB, 0, none⟩ = some (.int .i64 v) ∧ w'.cell? ⟨BB, 1, none⟩ = some (.int .i64 kk) ∧ w'.cell? ⟨BB, 2, none⟩ = some (.int .i64 nn) ∧ w'.cell? ⟨BB, 3, none⟩ = some (.slice o1 len1 cap1)) := by
          intro w' h
          exact bind_cells (by rw [h.block BB (lt_of_block HBX3.out) (fun h => by have := HR.out.lt _ h; have := HBB.out; omega)]; exact HBX3.out)
        clear hq3 c0 c1 c2 c3
        have hqc := Quiet0.refl w3
        obtain ⟨c0, c1, c2, c3⟩ := HBC.out w3 (Fr.refl _ _)
        go_wp2_with fail
        go_region_held3 (fun w' => w'.cell? ⟨BB, 0, none⟩ = some (.int .i64 v) ∧ w'.cell? ⟨BB, 1, none⟩ = some (.int .i64 kk) ∧ w'.cell? ⟨BB, 2, none⟩ = some (.int .i64 nn) ∧ w'.cell? ⟨BB, 3, none⟩ = some (.slice o1 len1 cap1))
          (((refine HBC.out _ ?_); (repeat (first | with_reducible exact HFR | with_reducible exact Quiet0.fr hqc | with_reducible exact Fr.refl _ _ | with_reducible refine Fr.trans ?_ (Fr.alloc _ _ _) | with_reducible refine Fr.trans ?_ (Fr.drew _ _) | ((with_reducible refine Fr.trans ?_ (Fr.setCell _ _ _ _ ?hsd)); (case hsd => (simp <;> omega))) | fail))))
          (first
            | (go_at_call 53; (with_reducible refine Calls.mono (HCP.out _ (HQ3.out.trans ?hq)) ?_); (case hq => (repeat (first | with_reducible exact hqc | with_reducible exact Quiet0.refl _ | with_reducible refine Quiet0.trans ?_ (Quiet0.alloc _ _) | with_reducible refine Quiet0.trans ?_ (Quiet0.drew _) | fail))); rintro e wx ⟨oc, cc, rfl, hsa, hqx⟩; (refine with_q (w0 := w3) ?hq2 hqx ?_); (case hq2 => (repeat (first | with_reducible exact hqc | with_reducible exact Quiet0.refl _ | with_reducible refine Quiet0.trans ?_ (Quiet0.alloc _ _) | with_reducible refine Quiet0.trans ?_ (Quiet0.drew _) | fail))); intro hqc)
            | (refine step_append_one wx (by rfl) (.tmp 19) (.tmp 26) 49 (by rfl) 91 _ 4 48 elemBd (.slice vo n vc) n xs (by rfl) (HN.out ▸ (HR.out.stay (HQ3.out.trans hqc)).own) #[.int .i64 v, .int .i64 kk, .int .i64 nn, .slice oc len1 cc] (by rfl) (by rfl) (by simp [Value.oneCell']) (by unfold maxLen; omega) (by omega) ?_; intro g2 c' w5 ho hf hg2; have HFR := Fr.trans (Quiet0.fr (S := fun j => (Value.slice vo n vc).ownBlock = some j) hqc) hf)
            | fail)
        all_goals
          have HRX := Lib.hid (HR.out.stay (HQ3.out.trans hqc))
          have hsz : w1.heap.size ≤ wx.heap.size := ((HQ.out.trans HQ3.out).trans hqc).size
          have HR2 : Hid (BdRow w5 w1.heap.size (.slice (some ⟨g2, 0, none⟩) (n + 1) c') ((F.take (i + 1)).filter (fun t => inB vars t.1)) (xs ++ [.int .i64 v, .int .i64 kk, .int .i64 nn, .slice oc len1 cc])) := by
            show BdRow _ _ _ _ _
            rw [HNT2.out]
            have hn' := HN.out
            subst hn'
            exact BdRow.snoc (t := (v, kk, nn, pp)) HRX.out (SlcIn.of_new hsa HR.out HQ3.out.size) ho hf hg2 hsz
          have HN2 : Hid (((F.take (i + 1)).filter (fun t => inB vars t.1)).length = n + 1) := by show _ = _; rw [HNT2.out, List.length_append, HN.out]; rfl
          have HQ5 : Hid (Quiet0 w1 w5) := Fr.trans' ((HQ.out.trans HQ3.out).trans hqc) hf (fun j hj h => absurd (HR.out.low j h) (by omega))
          clear ho hf hg2 hsa HFR hsz hqc
          go_wp2_with fail
          go_roundw
          case rel => exact ⟨i + 1, n + 1, _, some ⟨g2, 0, none⟩, c', by go_num, by omega, rfl, HN2.out, HR2.out, HQ5.out⟩
          case measure => simp [intOf]; omega
    · have hlt' : ¬ (i : Int) < F.length := by omega
      have htk : F.take i = F := List.take_of_length_le (by omega)
      rw [htk, ← HX.out] at HR HN
      have HBA := Lib.hid HR.out.binds
      have hXn : X.length = n := HN.out
      subst hXn
      clear htk
      go_wp2_with fail
      go_ret
      exact ⟨_, ⟨_, rfl⟩, HBA.out, HQ1.out.trans HQ.out⟩
end Go.Proofs.YtggidhgifaekbaaDoor
/-
  The program's count on binds: where what it tells lies. Conditions: the binds lie in memory as told; their variables are in range; there are few.
-/
namespace Go.Proofs.YtggidhgifaekbaaDoor
open Go.RowKit Go.Maps

/-- binds that lie in a row, in blocks of which R holds -/
def BindsIn (R : Nat → Prop) (w : World) (o : Option Addr) (l : List Bd) : Prop := ∀ i t, l[i]? = some t → ∃ b off o' len' cap', o = some ⟨b, off, none⟩ ∧ R b ∧
  w.cell? ⟨b, off + i * 4, none⟩ = some (.int .i64 t.1) ∧ w.cell? ⟨b, off + i * 4 + 1, none⟩ = some (.int .i64 t.2.1) ∧ w.cell? ⟨b, off + i * 4 + 2, none⟩ = some (.int .i64 t.2.2.1) ∧ w.cell? ⟨b, off + i * 4 + 3, none⟩ = some (.slice o' len' cap') ∧ SlcIn R w o' len' t.2.2.2
theorem BindsIn.at {R : Nat → Prop} {w : World} {o : Option Addr} {l : List Bd} (h : BindsIn R w o l) : BindsAt w o l := by
  intro i t ht
  obtain ⟨b, off, o', len', cap', h0, _, h1, h2, h3, h4, h5⟩ := h i t ht
  exact ⟨b, off, o', len', cap', h0, h1, h2, h3, h4, h5.slc⟩
theorem BindsIn.fr {R T S : Nat → Prop} {w w' : World} {o : Option Addr} {l : List Bd} (h : BindsIn R w o l) (hf : Fr S w w') (hR : ∀ k, k < w.heap.size → R k → T k ∧ ¬ S k) : BindsIn T w' o l := by
  intro i t ht
  obtain ⟨b, off, o', len', cap', h0, hr, h1, h2, h3, h4, h5⟩ := h i t ht
  have hb : b < w.heap.size := World.block_lt_of_cell? w _ h1
  obtain ⟨hT, hS⟩ := hR b hb hr
  exact ⟨b, off, o', len', cap', h0, hT, (hf.cellb hb hS).trans h1, (hf.cellb hb hS).trans h2, (hf.cellb hb hS).trans h3, (hf.cellb hb hS).trans h4, h5.fr hf hR⟩
theorem BindsAt.lt {w : World} {o : Option Addr} {l : List Bd} (h : BindsAt w o l) : BindsIn (fun k => k < w.heap.size) w o l := by
  intro i t ht
  obtain ⟨b, off, o', len', cap', h0, h1, h2, h3, h4, h5⟩ := h i t ht
  exact ⟨b, off, o', len', cap', h0, World.block_lt_of_cell? w _ h1, h1, h2, h3, h4, h5.lt⟩
theorem AtIn.both {R : Nat → Prop} {w : World} : ∀ (f : Fo) (b off : Nat), AtIn R w b off f → AtIn (fun k => R k ∧ k < w.heap.size) w b off f
  | .nil, _, _, _ => trivial
  | .cons k n ps r, b, off, h => by
    obtain ⟨h0, h1, h2, ⟨o, len, cap, h3, h4, h4', h5⟩, h6⟩ := h
    have hb : b < w.heap.size := World.block_lt_of_cell? w _ h1
    refine ⟨⟨h0, hb⟩, h1, h2, ⟨o, len, cap, h3, h4, h4', fun hl => ?_⟩, AtIn.both r b (off + 3) h6⟩
    obtain ⟨b', off', ho, ha⟩ := h5 hl
    exact ⟨b', off', ho, AtIn.both ps b' off' ha⟩
theorem SlcIn.both {R : Nat → Prop} {w : World} {o : Option Addr} {len : Nat} {f : Fo} (h : SlcIn R w o len f) : SlcIn (fun k => R k ∧ k < w.heap.size) w o len f := by
  refine ⟨h.1, h.2.1, fun hl => ?_⟩
  obtain ⟨b, off, ho, ha⟩ := h.2.2 hl
  exact ⟨b, off, ho, AtIn.both f b off ha⟩
theorem RowB.bindsIn {R : Nat → Prop} {N : Nat} {w : World} {l : List Bd} {xs : List Value} {g n c : Nat} (hg : N ≤ g) (h : RowB R w xs l) (ho : w.ownsRow 0 91 4 (.slice (some ⟨g, 0, none⟩) n c) l.length xs) : BindsIn (fun k => R k ∨ N ≤ k) w (some ⟨g, 0, none⟩) l := by
  intro i t ht
  obtain ⟨o, len, cap, h0, h1, h2, h3, h4⟩ := RowB.get l xs h i t ht
  have hc : ∀ j u, xs[j]? = some u → w.cell? ⟨g, j, none⟩ = some u := fun j u hj => by
    have := ho.cells (g := g) rfl j u hj
    simpa [Addr.add_lit] using this
  exact ⟨g, 0, o, len, cap, rfl, .inr hg, by rw [Nat.zero_add]; exact hc _ _ h0, by rw [Nat.zero_add]; exact hc _ _ h1, by rw [Nat.zero_add]; exact hc _ _ h2, by rw [Nat.zero_add]; exact hc _ _ h3, h4.fr (Fr.refl (fun _ => False) _) (fun k _ hk => ⟨.inl hk, fun h => h⟩)⟩
set_option maxHeartbeats 4000000 in
set_option maxRecDepth 100000 in
theorem count_in (R : Nat → Prop) (l : List Bd) (w : World) (o : Option Addr) (cap : Nat) (hs : BindsIn R w o l) (hw : ∀ t ∈ l, wfI t.1) (hz : l.length ≤ 100000) :
    Calls Tryd.prog 98 #[.slice o l.length cap] w fun e w' => ∃ a c, e = .returned (.slice a (firstB l).length c) ∧ BindsIn (fun k => (R k ∧ k < w.heap.size) ∨ w.heap.size ≤ k) w' a (firstB l) ∧ Quiet0 w w' := by
  have HS := Lib.hid hs
  have HW := Lib.hid hw
  have hmm := @run_makeMap Tryd.prog
  clear hs hw
  go_enter Tryd.func98, Tryd.ntmps98
  go_wp2_with fail
  go_loopw [4, 10] (fun v t wr => ∃ (i : Nat) (a : Option Addr) (c : Nat) (xs : List Value), t = .int .i64 i ∧ i ≤ l.length ∧ v = .slice a (firstB (l.take i)).length c ∧ MapOf wr w.heap.size i (numB (l.take i)) ∧ wr.ownsRow 0 91 4 v (firstB (l.take i)).length xs ∧ RowB (fun k => R k ∧ k < w.heap.size) wr xs (firstB (l.take i)) ∧ (∀ g, v.ownBlock = some g → w.heap.size < g) ∧ Quiet0 w wr) (fun _ t _ => l.length - (intOf t).toNat)
  case atStart => exact ⟨0, none, 0, [], rfl, Nat.zero_le _, rfl, (MapOf.made w).cong (fun _ _ => rfl), World.ownsRow_nil _ _ _ _, rfl, (fun g hg => by cases hg), Quiet0.alloc _ _⟩
  case round =>
    obtain ⟨i, a, c, xs, rfl, hi, rfl, hm, hrow, hrb, hge, hq⟩ := hrel
    have HM := Lib.hid hm
    have HROW := Lib.hid hrow
    have HRB := Lib.hid hrb
    have HG := Lib.hid hge
    have HQ := Lib.hid hq
    clear hm hrow hrb hge hq
    by_cases hlt : i < l.length
    · have hlt' : (i : Int) < l.length := by omega
      obtain ⟨t, ht⟩ : ∃ t, l[i]? = some t := ⟨_, List.getElem?_eq_getElem hlt⟩
      obtain ⟨b, off, o1, len1, cap1, rfl, e0, e1, e2, e3, hs1⟩ := HS.out.at.stay HQ.out i t ht
      obtain ⟨b', off', o1', len1', cap1', hoo, _, _, _, _, f3, hs0⟩ := HS.out i t ht
      cases hoo
      have f3' := HQ.out.at f3
      rw [e3] at f3'
      cases f3'
      have HT := Lib.hid ht
      have HWT := Lib.hid (HW.out t (List.mem_of_getElem? ht))
      have HNT : Hid (l.take (i + 1) = l.take i ++ [t]) := by show _ = _; rw [List.take_add_one, ht]; rfl
      have HS0 : Hid (SlcIn (fun k => R k ∧ k < w.heap.size) w o1 len1 t.2.2.2) := SlcIn.both hs0
      obtain ⟨v, k, n, ps⟩ := t
      simp only at e0 e1 e2 e3 hs1 hs0
      have hb0 := heap_alloc_new wr (.cells #[.int .i64 v, .int .i64 k, .int .i64 n, .slice o1 len1 cap1] 91)
      have HB0 := Lib.hid hb0
      have HMA := Lib.hid (HM.out.stay (Quiet0.alloc wr (.cells #[.int .i64 v, .int .i64 k, .int .i64 n, .slice o1 len1 cap1] 91)))
      have hlk := HMA.out.look HWT.out
      have hmlt := HM.out.lt
      have hfl := first_len (l.take i) []
      have hfl2 : (firstB (l.take i)).length ≤ i := by
        have h := hfl
        rw [List.length_take] at h
        simp at h
        exact Nat.le_trans h (by omega)
      have hnb := numB_le (l.take i) v
      have hnb2 : numB (l.take i) v ≤ 100000 := by have := hnb.2; rw [List.length_take] at this; omega
      have hwr : IntKind.i64.wrap (numB (l.take i) v + 1) = numB (l.take i) v + 1 := IntWalk.i64_in _ (by omega)
      clear ht f3 hs1 hs0 hb0 hfl
      have HRB2 : Hid (∀ W, Fr (fun j => w.heap.size ≤ j) wr W → RowB (fun j => R j ∧ j < w.heap.size) W xs (firstB (l.take i))) := fun W hf => RowB.fr hf (fun j _ hj => ⟨hj, by have := hj.2; omega⟩) _ _ HRB.out
      have HFS : Hid (firstB (l.take (i + 1)) = firstStep (firstB (l.take i)) (v, k, n, ps)) := by show _ = _; rw [HNT.out, firstB_snoc]
      have HNS : Hid (∀ x, numB (l.take (i + 1)) x = if x = v then numB (l.take i) v + 1 else numB (l.take i) x) := by intro x; rw [HNT.out, numB_snoc]
      have HFH := Lib.hid (first_has (l.take i) v)
      cases hh : hasB (l.take i) v
      · have hz0 : (numB (l.take i) v == 0) = true := by rw [numB_zero, hh]; rfl
        have hN0 : numB (l.take i) v = 0 := eq_of_beq hz0
        have HFS2 : Hid (firstB (l.take (i + 1)) = firstB (l.take i) ++ [(v, k, n, ps)]) := by
          show _ = _
          rw [HFS.out]; unfold firstStep; rw [HFH.out, hh]; rfl
        have HN0 := Lib.hid hN0
        rw [hN0] at hlk
        clear hh hz0 hN0 hwr hnb hnb2
        generalize hfb : (firstB (l.take i)).length = fl at *
        have HFB := Lib.hid hfb
        clear hfb
        go_wp2_with (at_builtin; go_must (refine wpList_append_at (wr.alloc (.cells #[.int .i64 v, .int .i64 k, .int .i64 n, .slice o1 len1 cap1] 91)) (wr.heap.size + 1) (by simp) rfl (.tmp 19) (.tmp 21) 49 rfl 91 _ 4 48 elemBd (.slice a fl c) fl xs rfl (HROW.out.alloc _) #[.int .i64 v, .int .i64 k, .int .i64 n, .slice o1 len1 cap1] rfl rfl ?c1 ?c2 ?c3 ?_))
        case c1 => simp [Value.oneCell']
        case c2 => unfold maxLen; omega
        case c3 => omega
        intro g2 c' w2 ho hf hg2
        have hown : ∀ j, (Value.slice a fl c).ownBlock = some j → w.heap.size < j ∧ j < wr.heap.size := fun j h => ⟨HG.out j h, (HROW.out.lt j h).2⟩
        have HB2 : Hid (w2.heap[wr.heap.size]? = some (.cells #[.int .i64 v, .int .i64 k, .int .i64 n, .slice o1 len1 cap1] 91 (0, 0))) := by
          show _ = _
          rw [hf.block wr.heap.size (by simp) (fun h => by have := (hown _ h).2; omega)]; exact HB0.out
        have HM2 := Lib.hid (HMA.out.fr hf (fun h => by have := (hown _ h).1; omega))
        have hlk2 := HM2.out.look HWT.out
        rw [HN0.out] at hlk2
        have z0 : w2.cell? ⟨wr.heap.size, 0, none⟩ = some (.int .i64 v) := by rw [cell_of_row _ _ _ _ _ (0, 0) HB2.out]; rfl
        have HF2 : Hid (Fr (fun j => w.heap.size ≤ j) wr w2) := (Fr.alloc _ _ _).trans' hf (fun j hj h => Nat.le_of_lt (hown j h).1)
        have HO2 := Lib.hid ho
        have HG2 : Hid (w.heap.size < g2) := by
          rcases hg2 with h | h
          · exact (hown _ h).1
          · have h' : wr.heap.size + 1 ≤ g2 := by simpa using h
            have := HM.out.lt
            show w.heap.size < g2
            omega
        clear ho hf hg2 hown hlk
        go_wp2_with (at_mapUpdate; go_must (refine wpList_store _ rfl _ _ _ rfl rfl HM2.out ?hn v 1 HWT.out (wfI_of (by omega) (by omega)) rfl rfl ?_))
        case hn => unfold maxLen; omega
        intro w3 hm3 hf3
        have HF3 : Hid (Fr (fun j => w.heap.size ≤ j) wr w3) := HF2.out.trans (hf3.mono (fun j _ h => by have h' : j = w.heap.size := h; omega))
        have HM3 : Hid (MapOf w3 w.heap.size (i + 1) (numB (l.take (i + 1)))) := hm3.cong (fun x _ => by
          rw [HNS.out, HN0.out]; rfl)
        have HO3 := Lib.hid (ownsRow_fr HO2.out hf3 (fun j hj h => by simp [Value.ownBlock] at hj; have h' : j = w.heap.size := h; have := HG2.out; omega))
        clear hm3 hf3 hlk2 z0
        go_wp2_with fail
        go_roundw
        case rel =>
          refine ⟨i + 1, some ⟨g2, 0, none⟩, c', xs ++ [.int .i64 v, .int .i64 k, .int .i64 n, .slice o1 len1 cap1], by go_num, by omega, ?_, HM3.out, ?_, ?_, ?_, ?_⟩
          · rw [HFS2.out, List.length_append, HFB.out]; rfl
          · rw [HFS2.out, List.length_append, HFB.out]; simpa using HO3.out
          · rw [HFS2.out]
            exact RowB.snoc (t := (v, k, n, ps)) ((HS0.out.fr HQ.out (fun j _ hj => ⟨hj, fun h => h⟩)).fr HF3.out (fun j _ hj => ⟨hj, by have hj' : j < w.heap.size := hj.2; omega⟩)) _ _ (HRB2.out _ HF3.out)
          · intro g hg; simp [Value.ownBlock] at hg; subst hg; exact HG2.out
          · exact Fr.trans' HQ.out HF3.out (fun j hj h => by omega)
        case measure => simp [intOf]; omega
      · have hz0 : (numB (l.take i) v == 0) = false := by rw [numB_zero, hh]; rfl
        have HFS2 : Hid (firstB (l.take (i + 1)) = firstB (l.take i)) := by
          show _ = _
          rw [HFS.out]; unfold firstStep; rw [HFH.out, hh]; rfl
        obtain ⟨q, hq'⟩ : ∃ q, q = numB (l.take i) v := ⟨_, rfl⟩
        rw [← hq'] at hlk hz0 hwr hnb hnb2
        have HQ' := Lib.hid hq'
        have hqwf : wfI (q + 1) := wfI_of (by omega) (by omega)
        clear hh hq'
        generalize hfb : (firstB (l.take i)).length = fl at *
        have HFB := Lib.hid hfb
        clear hfb
        go_wp2_with (at_mapUpdate; go_must (refine wpList_store _ rfl _ _ _ rfl rfl HMA.out ?hn v (q + 1) HWT.out hqwf rfl rfl ?_))
        case hn => unfold maxLen; omega
        intro w3 hm3 hf3
        have HF3 : Hid (Fr (fun j => w.heap.size ≤ j) wr w3) := (Fr.alloc _ _ _).trans (hf3.mono (fun j _ h => by have h' : j = w.heap.size := h; omega))
        have HM3 : Hid (MapOf w3 w.heap.size (i + 1) (numB (l.take (i + 1)))) := hm3.cong (fun x _ => by
          rw [HNS.out, ← HQ'.out])
        have HO3 := Lib.hid (ownsRow_fr (HROW.out.alloc _) hf3 (fun j hj h => by have h' : j = w.heap.size := h; have := HG.out j hj; omega))
        clear hm3 hf3 hlk
        go_wp2_with fail
        go_roundw
        case rel =>
          refine ⟨i + 1, a, c, xs, by go_num, by omega, ?_, HM3.out, ?_, ?_, HG.out, ?_⟩
          · rw [HFS2.out, HFB.out]
          · rw [HFS2.out, HFB.out]; exact HO3.out
          · rw [HFS2.out]; exact HRB2.out _ HF3.out
          · exact Fr.trans' HQ.out HF3.out (fun j hj h => by omega)
        case measure => simp [intOf]; omega
    · have hlt' : ¬ (i : Int) < l.length := by omega
      have htk : l.take i = l := List.take_of_length_le (by omega)
      rw [htk] at HROW HRB
      rw [htk]
      have HBA : Hid (BindsIn (fun k => (R k ∧ k < w.heap.size) ∨ w.heap.size ≤ k) wr a (firstB l)) := by
        rcases HROW.out.2 with ⟨he, h0⟩ | ⟨g, cap', cur, he, _⟩
        · intro j u hu
          rw [List.length_eq_zero_iff.1 h0] at hu; simp at hu
        · injection he with h1 h2 h3
          subst h1
          exact RowB.bindsIn (by have := HG.out g rfl; omega) HRB.out HROW.out
      clear htk
      go_wp2_with fail
      go_ret
      exact ⟨_, ⟨_, rfl⟩, HBA.out, HQ.out⟩
end Go.Proofs.YtggidhgifaekbaaDoor
