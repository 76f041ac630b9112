/-
  Equations in memory; slices.IndexFunc and ContainsFunc on them. Conditions: the rows lie in memory as told.
-/
import Derived.Test.YtggidhgifaekbaaDoorSuMem
import Derived.Test.YtggidhgifaekbaaDoorTyRight
namespace Go.Proofs.YtggidhgifaekbaaDoor
open Go.RowKit Go.Maps

/-- an equation: two types, and a span -/
abbrev Eqn := (Int × Int × Fo) × (Int × Int × Fo) × Int × Int
def eqv (t : Eqn) (o1 : Option Addr) (l1 c1 : Nat) (o2 : Option Addr) (l2 c2 : Nat) : Value :=
  .agg #[.int .i64 t.1.1, .int .i64 t.1.2.1, .slice o1 l1 c1, .int .i64 t.2.1.1, .int .i64 t.2.1.2.1, .slice o2 l2 c2, .int .i64 t.2.2.1, .int .i64 t.2.2.2]
def EqsAt (w : World) (o : Option Addr) (l : List Eqn) : Prop := ∀ i t, l[i]? = some t → ∃ b off o1 l1 c1 o2 l2 c2, o = some ⟨b, off, none⟩ ∧
  w.cell? ⟨b, off + i * 8, none⟩ = some (.int .i64 t.1.1) ∧ w.cell? ⟨b, off + i * 8 + 1, none⟩ = some (.int .i64 t.1.2.1) ∧ w.cell? ⟨b, off + i * 8 + 2, none⟩ = some (.slice o1 l1 c1) ∧
  w.cell? ⟨b, off + i * 8 + 3, none⟩ = some (.int .i64 t.2.1.1) ∧ w.cell? ⟨b, off + i * 8 + 4, none⟩ = some (.int .i64 t.2.1.2.1) ∧ w.cell? ⟨b, off + i * 8 + 5, none⟩ = some (.slice o2 l2 c2) ∧
  w.cell? ⟨b, off + i * 8 + 6, none⟩ = some (.int .i64 t.2.2.1) ∧ w.cell? ⟨b, off + i * 8 + 7, none⟩ = some (.int .i64 t.2.2.2) ∧ Slc w o1 l1 t.1.2.2 ∧ Slc w o2 l2 t.2.1.2.2
theorem EqsAt.stay {w w' : World} {o : Option Addr} {l : List Eqn} (h : EqsAt w o l) (hq : Quiet0 w w') : EqsAt w' o l := by
  intro i t ht
  obtain ⟨b, off, o1, l1, c1, o2, l2, c2, h0, a0, a1, a2, a3, a4, a5, a6, a7, s1, s2⟩ := h i t ht
  exact ⟨b, off, o1, l1, c1, o2, l2, c2, h0, hq.at a0, hq.at a1, hq.at a2, hq.at a3, hq.at a4, hq.at a5, hq.at a6, hq.at a7, s1.stay hq, s2.stay hq⟩
def idxE (p : Eqn → Bool) : List Eqn → Nat → Int
  | [], _ => -1
  | t :: r, i => if p t then i else idxE p r (i + 1)
theorem idxE_any (p : Eqn → Bool) : ∀ (l : List Eqn) (i : Nat), decide (0 ≤ idxE p l i) = l.any p
  | [], i => rfl
  | t :: r, i => by
    unfold idxE
    rw [List.any_cons]
    cases h : p t
    · simp only [Bool.false_eq_true, if_false, Bool.false_or]; exact idxE_any p r (i + 1)
    · simp
def PredEq (g : Nat) (lb : Array Value) (w0 : World) (l : List Eqn) (p : Eqn → Bool) : Prop := ∀ t ∈ l, ∀ (W : World) (o1 : Option Addr) (l1 c1 : Nat) (o2 : Option Addr) (l2 c2 : Nat), Quiet0 w0 W → Slc W o1 l1 t.1.2.2 → Slc W o2 l2 t.2.1.2.2 →
  Calls Tryd.prog g (#[eqv t o1 l1 c1 o2 l2 c2] ++ lb) W fun e W' => e = .returned (.bool (p t)) ∧ Quiet0 W W'
set_option maxHeartbeats 1000000 in
theorem indexEq_any (g : Nat) (lb : Array Value) (p : Eqn → Bool) (eg : ∀ args w, (callFunc g args).run Tryd.prog w = .ok (.enter g args) w) (l : List Eqn) (o : Option Addr) (cap : Nat) (w : World) (hs : EqsAt w o l) (hp : PredEq g lb w l p) (hz : l.length ≤ 1000000) :
    Calls Tryd.prog 118 #[.slice o l.length cap, .func (.func g) #[] lb] w fun e w' => e = .returned (.int .i64 (idxE p l 0)) ∧ Quiet0 w w' := by
  have HS := Lib.hid hs
  have HP := Lib.hid hp
  clear hs hp
  obtain ⟨res, hres⟩ : ∃ res, res = idxE p l 0 := ⟨_, rfl⟩
  have HR := Lib.hid hres
  rw [← hres]
  clear hres
  go_enter Tryd.func118, Tryd.ntmps118
  go_wp2_with fail
  go_loopw [8] (fun t wr => ∃ i : Nat, t = .int .i64 i ∧ i ≤ l.length ∧ res = idxE p (l.drop i) i ∧ Quiet0 w wr) (fun t _ => l.length - (intOf t).toNat)
  case atStart => exact ⟨0, rfl, Nat.zero_le _, HR.out, Quiet0.refl _⟩
  case round =>
    obtain ⟨i, rfl, hi, hr, hq⟩ := hrel
    have HRR := Lib.hid hr
    have HQ := Lib.hid hq
    clear hr hq
    by_cases hlt : i < l.length
    · have hlt' : (i : Int) < l.length := by omega
      obtain ⟨t, ht⟩ : ∃ t, l[i]? = some t := ⟨_, List.getElem?_eq_getElem hlt⟩
      obtain ⟨b, off, o1, l1, c1, o2, l2, c2, rfl, a0, a1, a2, a3, a4, a5, a6, a7, s1, s2⟩ := HS.out.stay HQ.out i t ht
      have HN : Hid (res = if p t then (i : Int) else idxE p (l.drop (i + 1)) (i + 1)) := by
        show _ = _
        rw [HRR.out, drop_some ht]; rfl
      have HC := Lib.hid (HP.out t (List.mem_of_getElem? ht) wr o1 l1 c1 o2 l2 c2 HQ.out s1 s2)
      unfold eqv at HC
      clear ht s1 s2
      cases hb : p t
      all_goals
        rw [hb] at HC HN
        clear hb
        go_wp2_with fail
        refine HC.out.mono ?_; rintro e w1 ⟨rfl, hq1⟩
        have HQ1 := Lib.hid (HQ.out.trans hq1)
        clear hq1
        go_wp2_with fail
      · go_roundw
        case rel => exact ⟨i + 1, by go_num, by omega, HN.out, HQ1.out⟩
        case measure => simp [intOf]; omega
      · go_ret
        exact ⟨by rw [HN.out]; rfl, HQ1.out⟩
    · have hlt' : ¬ (i : Int) < l.length := by omega
      have HY : Hid (res = -1) := by show _ = _; rw [HRR.out, List.drop_of_length_le (by omega)]; rfl
      go_wp2_with fail
      go_ret
      exact ⟨by rw [HY.out]; rfl, HQ.out⟩
theorem containsEq_any (g : Nat) (lb : Array Value) (p : Eqn → Bool) (eg : ∀ args w, (callFunc g args).run Tryd.prog w = .ok (.enter g args) w) (l : List Eqn) (o : Option Addr) (cap : Nat) (w : World) (hs : EqsAt w o l) (hp : PredEq g lb w l p) (hz : l.length ≤ 1000000) :
    Calls Tryd.prog 86 #[.slice o l.length cap, .func (.func g) #[] lb] w fun e w' => e = .returned (.bool (l.any p)) ∧ Quiet0 w w' := by
  have HC := Lib.hid (indexEq_any g lb p eg l o cap w hs hp hz)
  rw [← idxE_any p l 0]
  clear hs hp eg
  generalize idxE p l 0 = r at *
  go_enter Tryd.func86, Tryd.ntmps86
  go_wp2_with fail
  refine HC.out.mono ?_; rintro e w1 ⟨rfl, hq⟩
  go_wp2_with fail
  go_ret
  exact ⟨rfl, hq⟩
end Go.Proofs.YtggidhgifaekbaaDoor
