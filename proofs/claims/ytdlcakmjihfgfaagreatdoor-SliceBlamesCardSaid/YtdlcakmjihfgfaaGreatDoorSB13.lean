/-
  Texts laid together (SlBlamesLaw, SpOpen, SlLaid): what each one proves, and its conditions, stands at its head.
-/
import Derived.Deep.Slices
import Derived.LaidMore
import Derived.Stop.Joined
import Derived.LaidLaws
import Derived.Lib.LaidTab
import Derived.Stop.LaidErr
import Derived.Test.YtdlcakmjihfgfaaGreatDoorRows
import Derived.Test.YtdlcakmjihfgfaaGreatDoorSB1
import Derived.Test.YtdlcakmjihfgfaaGreatDoorSB2
import Derived.Test.YtdlcakmjihfgfaaGreatDoorSB3
import Derived.Test.YtdlcakmjihfgfaaGreatDoorSB4
import Derived.Test.YtdlcakmjihfgfaaGreatDoorSB5
import Derived.Test.YtdlcakmjihfgfaaGreatDoorSB6
import Derived.Test.YtdlcakmjihfgfaaGreatDoorSB7
import Derived.Test.YtdlcakmjihfgfaaGreatDoorSB8
import Derived.Test.YtdlcakmjihfgfaaGreatDoorSB9
import Derived.Test.YtdlcakmjihfgfaaGreatDoorSB10
import Derived.Test.YtdlcakmjihfgfaaGreatDoorSB11
import Derived.Test.YtdlcakmjihfgfaaGreatDoorSB12
section
/-
  The law SliceBlames: it returns true. Conditions: the term and the spans lie in memory; the table of blanks holds what its initialiser lays.
-/
namespace Go.Proofs.YtdlcakmjihfgfaaGreatDoor
open Go.RowKit Go.Shelf SpanPlain

theorem allT_both {G H : Nd → Prop} : ∀ f : To, allT G f → allT H f → allT (fun h => G h ∧ H h) f
  | .nil, _, _ => trivial
  | .cons _ ps r, e, e' => ⟨⟨e.1, e'.1⟩, allT_both ps e.2.1 e'.2.1, allT_both r e.2.2 e'.2.2⟩
set_option maxHeartbeats 8000000 in
set_option maxRecDepth 100000 in
theorem sliceBlames_all (a : Nd) (p : To) (l : List Sp) (o : Option Addr) (cap : Nat) (w : World) (o1 : Option Addr) (l1 c1 : Nat) (o2 : Option Addr) (l2 c2 : Nat)
    (h1 : SlcIn (Low w) w o1 l1 a.tp) (h2 : TSlc (Low w) w o2 l2 p) (hoa : OkO a) (hop : allT OkO p) (hsp : SpAt (fun _ => True) w o l) (hmx : l.length ≤ 9223372036854775807) (ht : Lx.Spaces w) :
    Calls Tryz.prog 3 #[tmv a o1 l1 c1 o2 l2 c2, .slice o l.length cap] w fun e w' => e = .returned (.bool true) ∧ Quiet0 w w' := by
  have HA : Hid (∀ W, Calls Tryz.prog 5 #[] W fun e w' => e = .returned (.bool true) ∧ Quiet0 W w') := fun W => awakeSl_any W
  have hmn : ∀ h : Nd, OkO h → h.nm.size ≤ 9223372036854775807 := fun h hh => by have := hh.1; unfold maxLen at this; omega
  have HG : Hid (∀ W, Quiet0 w W → Calls Tryz.prog 4 #[.agg #[.int .i64 a.k, .string a.nm, .int .i64 a.n, .int .i64 a.tk, .int .i64 a.tn, .slice o1 l1 c1, .slice o2 l2 c2, .int .i64 a.fr, .int .i64 a.en]] W fun e w' => e = .returned (.bool (greatTm a p)) ∧ Quiet0 W w') := fun W hq => greatTm_any a p W (Low w) o1 l1 c1 o2 l2 c2 (h1.stay hq) (h2.stay hq) (hmn _ hoa) (allT_mono hmn _ hop)
  have HQ0 : Hid (Quiet0 w (w.alloc (.cells (cells9 a o1 l1 c1 o2 l2 c2) 29))) := Quiet0.alloc _ _
  have HBX := Lib.hid (fun W hq => box9 w a o1 l1 c1 o2 l2 c2 29 W hq)
  obtain ⟨W0, hW0⟩ : ∃ W0, W0 = w.alloc (.cells (cells9 a o1 l1 c1 o2 l2 c2) 29) := ⟨_, rfl⟩
  rw [← hW0] at HQ0 HBX
  cases hg1 : greatTm a p
  · rw [hg1] at HG
    by_cases h30 : 30 < l.length
    · have h30' : (30 : Int) < (l.length : Int) := by omega
      clear h1 h2 hoa hop hsp ht hg1
      unfold tmv
      go_enter Tryz.func3, Tryz.ntmps3
      go_wp2_with fail
      rw [← hW0]
      clear hW0
      refine (HG.out _ HQ0.out).mono ?_; rintro e w1 ⟨rfl, hq1⟩
      have HQ1 := Lib.hid (HQ0.out.trans hq1)
      clear hq1
      go_wp2_with fail
      refine (HA.out _).mono ?_; rintro e w2 ⟨rfl, hq2⟩
      have HQ2 := Lib.hid (HQ1.out.trans hq2)
      clear hq2
      go_wp2_with fail
      go_ret
      exact ⟨rfl, HQ2.out⟩
    · have h30' : ¬ (30 : Int) < (l.length : Int) := by omega
      have ga := greatTm_no hg1
      have ba := bigH_no ga.1
      have hpz : p.size ≤ 199 := by omega
      have hall := allT_both p hop (allT_mono (fun h hh => bigH_no hh) _ ga.2.1)
      have gH : allT GoodH (.cons a p .nil) := ⟨⟨by omega, by omega, hoa.2.1, hoa.2.2.1⟩, allT_mono (fun h hh => ⟨by have := hh.2.1; omega, by have := hh.2.2; omega, hh.1.2.1, hh.1.2.2.1⟩) _ hall, trivial⟩
      have gR : allT GoodR p := allT_mono (fun h hh => ⟨by have := hh.2.1; omega, by have := hh.2.2; omega, hh.1.2.2.2⟩) _ hall
      obtain ⟨AA, hAA⟩ : ∃ AA, AA = allS (.cons a p .nil) := ⟨_, rfl⟩
      obtain ⟨N, hN⟩ : ∃ N, N = blT (rmerge l) (spx (To.cons a p .nil).flat) (p.size + 1) := ⟨_, rfl⟩
      obtain ⟨res, hres⟩ : ∃ res : List Int, res = if AA then N else [] := ⟨_, rfl⟩
      have hNl : N.length ≤ 1000000 := by rw [hN]; have := blT_le (rmerge l) (spx (To.cons a p .nil).flat) (p.size + 1); omega
      have HBL : Hid (∀ W, Quiet0 w W → Calls Tryz.prog 6 #[.agg #[.int .i64 a.k, .string a.nm, .int .i64 a.n, .int .i64 a.tk, .int .i64 a.tn, .slice o1 l1 c1, .slice o2 l2 c2, .int .i64 a.fr, .int .i64 a.en], .slice o l.length cap] W (BlQ W res)) := fun W hq => blamedS_any a p l o cap W (Low w) (fun _ => True) o1 l1 c1 o2 l2 c2 (h1.stay hq) (h2.stay hq) (by omega) gH (ht.stay hq) (hsp.stay hq) (by omega) res (by rw [hres, hAA, hN])
      have HRR : Hid (∀ W, Quiet0 w W → Calls Tryz.prog 7 #[.agg #[.int .i64 a.k, .string a.nm, .int .i64 a.n, .int .i64 a.tk, .int .i64 a.tn, .slice o1 l1 c1, .slice o2 l2 c2, .int .i64 a.fr, .int .i64 a.en]] W fun e w' => e = .returned (.bool AA) ∧ Quiet0 W w') := by intro W hq; rw [hAA]; exact refRightT_any a p W (Low w) o1 l1 c1 o2 l2 c2 (h1.stay hq) (h2.stay hq) ⟨by omega, by omega, hoa.2.2.2⟩ gR
      have HRB : Hid (∀ W, Quiet0 w W → Calls Tryz.prog 9 #[.agg #[.int .i64 a.k, .string a.nm, .int .i64 a.n, .int .i64 a.tk, .int .i64 a.tn, .slice o1 l1 c1, .slice o2 l2 c2, .int .i64 a.fr, .int .i64 a.en], .slice o l.length cap] W (BlQ W N)) := by intro W hq; rw [hN]; exact refBlamed_any a p l o cap W (Low w) (fun _ => True) o1 l1 c1 o2 l2 c2 (h2.stay hq) (by omega) (hsp.stay hq) (by omega)
      have HRES := Lib.hid hres
      have HNL := Lib.hid hNl
      clear h1 h2 hoa hop hsp ht hg1 ga ba hall gH gR hAA hN hres hNl
      unfold tmv
      go_enter Tryz.func3, Tryz.ntmps3
      go_wp2_with fail
      rw [← hW0]
      clear hW0
      refine (HG.out _ HQ0.out).mono ?_; rintro e w1 ⟨rfl, hq1⟩
      obtain ⟨b0, b1, b2, b3, b4, b5, b6, b7, b8⟩ := HBX.out w1 hq1
      have HX1 := Lib.hid hq1
      have HQ1 := Lib.hid (HQ0.out.trans hq1)
      clear hq1
      go_wp2_with fail
      refine (HBL.out _ HQ1.out).mono ?_; rintro e w2 ⟨o5, c5, rfl, ha5, hq2⟩
      clear b0 b1 b2 b3 b4 b5 b6 b7 b8
      obtain ⟨b0, b1, b2, b3, b4, b5, b6, b7, b8⟩ := HBX.out w2 (HX1.out.trans hq2)
      have HX2 := Lib.hid (HX1.out.trans hq2)
      have HQ2 := Lib.hid (HQ1.out.trans hq2)
      have HA5 := Lib.hid ha5
      clear hq2 ha5
      go_wp2_with fail
      refine (HRR.out _ HQ2.out).mono ?_; rintro e w3 ⟨rfl, hq3⟩
      clear b0 b1 b2 b3 b4 b5 b6 b7 b8
      obtain ⟨b0, b1, b2, b3, b4, b5, b6, b7, b8⟩ := HBX.out w3 (HX2.out.trans hq3)
      have HQ3 := Lib.hid (HQ2.out.trans hq3)
      have HA3 := Lib.hid (HA5.out.stay hq3)
      clear hq3
      cases AA
      · have hr : res = [] := HRES.out
        subst hr
        clear b0 b1 b2 b3 b4 b5 b6 b7 b8
        go_wp2_with fail
        refine (HA.out _).mono ?_; rintro e w4 ⟨rfl, hq4⟩
        have HQ4 := Lib.hid (HQ3.out.trans hq4)
        clear hq4
        go_wp2_with fail
        go_ret
        exact ⟨rfl, HQ4.out⟩
      · have hr : res = N := HRES.out
        subst hr
        go_wp2_with fail
        refine (HRB.out _ HQ3.out).mono ?_; rintro e w4 ⟨o6, c6, rfl, ha6, hq4⟩
        have HQ4 := Lib.hid (HQ3.out.trans hq4)
        have HI := Lib.hid (Li.ints_any o5 c5 o6 c6 res res w4 (HA3.out.stay hq4) ha6 HNL.out)
        rw [show (res == res) = true from by simp] at HI
        clear hq4 ha6 b0 b1 b2 b3 b4 b5 b6 b7 b8
        go_wp2_with fail
        refine HI.out.mono ?_; rintro e w5 ⟨rfl, hq5⟩
        have HQ5 := Lib.hid (HQ4.out.trans hq5)
        clear hq5
        go_wp2_with fail
        refine (HA.out _).mono ?_; rintro e w6 ⟨rfl, hq6⟩
        have HQ6 := Lib.hid (HQ5.out.trans hq6)
        clear hq6
        go_wp2_with fail
        go_ret
        exact ⟨rfl, HQ6.out⟩
  · rw [hg1] at HG
    clear h1 h2 hoa hop hsp ht hg1
    unfold tmv
    go_enter Tryz.func3, Tryz.ntmps3
    go_wp2_with fail
    rw [← hW0]
    clear hW0
    refine (HG.out _ HQ0.out).mono ?_; rintro e w1 ⟨rfl, hq1⟩
    have HQ1 := Lib.hid (HQ0.out.trans hq1)
    clear hq1
    go_wp2_with fail
    refine (HA.out _).mono ?_; rintro e w2 ⟨rfl, hq2⟩
    have HQ2 := Lib.hid (HQ1.out.trans hq2)
    clear hq2
    go_wp2_with fail
    go_ret
    exact ⟨rfl, HQ2.out⟩
end Go.Proofs.YtdlcakmjihfgfaaGreatDoor
end
section
/-
  Rows of spans that came in as arguments; a row of cells known whole that holds spans. No condition.
-/
namespace Go.Proofs.YtdlcakmjihfgfaaGreatDoor
open Go.ChangeShapes Go.WideShapes Go.ChangeAt Go.RowKit SpanPlain

theorem spSpot {w : World} {a : Addr} {v : Value} (h : w.cell? (a.add 0) = some v) : ∃ b off, a = ⟨b, off, none⟩ := by
  obtain ⟨b, off, s⟩ := a
  cases s with
  | none => exact ⟨b, off, rfl⟩
  | some s =>
    unfold World.cell? Addr.add at h
    simp only [if_true] at h
    split at h <;> simp_all
theorem spList {α : Type} {P : Nat → α → Prop} : ∀ len : Nat, (∀ i, i < len → ∃ t, P i t) → ∃ l : List α, l.length = len ∧ ∀ i t, l[i]? = some t → P i t
  | 0, _ => ⟨[], rfl, fun i t h => by simp at h⟩
  | len + 1, h => by
    obtain ⟨l, hl, hp⟩ := spList len (fun i hi => h i (by omega))
    obtain ⟨t, ht⟩ := h len (by omega)
    refine ⟨l ++ [t], by simp [hl], fun i u hu => ?_⟩
    by_cases hi : i < len
    · rw [List.getElem?_append_left (by omega)] at hu
      exact hp i u hu
    · have h2 : i < (l ++ [t]).length := (List.getElem?_eq_some_iff.1 hu).1
      have h3 : i = len := by simp [hl] at h2; omega
      subst h3
      rw [List.getElem?_append_right (by omega)] at hu
      simp [hl] at hu
      subst hu
      exact ht
section
variable {H : Type} {enc : TypeId × Value → H} {P : Program} {w : World} {base : Nat} {spare : Nat → Bool} {held : Bool}
theorem spFields {te : TypeId} {f0 f1 : Field} {n0 n1 : Nat} (he : P.underlying te = some (.struct #[f0, f1])) (ce : P.cellsOf te = n0 + n1) (o0 : f0.offset = 0) (o1 : f1.offset = n0) (c0 : P.cellsOf f0.type = n0) (c1 : P.cellsOf f1.type = n1)
    {fuel : Nat} {cs : List Value} {x : DataW H × List MemPlace} (h : DataW.trod enc P w base spare held fuel te cs = some x) : ∃ (cs0 cs1 : List Value) (x0 x1 : DataW H × List MemPlace) (n : Nat), cs = cs0 ++ cs1 ∧ DataW.trod enc P w base spare held n f0.type cs0 = some x0 ∧ DataW.trod enc P w base spare held n f1.type cs1 = some x1 := by
  obtain ⟨xs, n', hn', _, hcl, hxl, hfx⟩ := DataW.trod_struct he h
  rw [ce] at hcl
  have hxl2 : xs.length = 2 := by simpa using hxl
  have s0 := hfx 0 f0 rfl
  have s1 := hfx 1 f1 rfl
  rw [c0, o0, show xs[0]? = some (xs[0]'(by omega)) from by simp [hxl2]] at s0
  rw [c1, o1, show xs[1]? = some (xs[1]'(by omega)) from by simp [hxl2]] at s1
  rw [List.drop_zero] at s0
  rw [List.take_of_length_le (by simp; omega)] at s1
  exact ⟨_, _, _, _, n', (List.take_append_drop n0 cs).symm, s0, s1⟩
end
def spI (n : Int) : Prop := (Lit.int .i64 n).wf = true
section
variable {H : Type} {enc : TypeId × Value → H} {w : World} {base : Nat} {spare : Nat → Bool} {held : Bool}
theorem spOpen1 {fuel : Nat} {cs : List Value} {x : DataW H × List MemPlace} (h : DataW.trod enc Tryz.prog w base spare held fuel 27 cs = some x) : ∃ k n, cs = [.int .i64 k, .int .i64 n] ∧ spI k ∧ spI n := by
  obtain ⟨cs0, cs1, x0, x1, n', rfl, s0, s1⟩ := spFields (n0 := 1) (n1 := 1) Tryz.underlying27 (by kernel_rfl) rfl rfl (by kernel_rfl) (by kernel_rfl) h
  obtain ⟨z0, rfl, _, hw0⟩ := DataW.trod_int Tryz.underlying3 s0
  obtain ⟨z1, rfl, _, hw1⟩ := DataW.trod_int Tryz.underlying3 s1
  exact ⟨z0, z1, rfl, hw0, hw1⟩
/-- an argument that is a row of spans -/
theorem open_spans {ts : TypeId} {v : Value} {d : DataW H} {p : List MemPlace} (ht : Tryz.prog.underlying ts = some (.slice 27)) (hv : ∃ a len cap, v = .slice a len cap) (h : DataW.Trod enc Tryz.prog w base spare held ts v d p) :
    ∃ o c l, v = .slice o (List.length l) c ∧ SpAt (fun _ => True) w o l ∧ (∀ t ∈ l, spI t.1 ∧ spI t.2) ∧ l.length ≤ 9223372036854775807 ∧ l.length ≤ c := by
  obtain ⟨a0, l0, cc0, rfl⟩ := hv
  obtain ⟨fuel, hf⟩ := h
  rcases DataW.trod_slice ht hf with ⟨he, _⟩ | ⟨a, len, cap, elems, rest, n, hfu, he, _, _, hl, hm, hlen, hel, _⟩
  · simp [Value.cells] at he
    obtain ⟨rfl, rfl, rfl⟩ := he
    exact ⟨none, 0, [], rfl, fun i t h => by simp at h, fun t h => by simp at h, by simp, by simp⟩
  · simp [Value.cells] at he
    obtain ⟨rfl, rfl, rfl⟩ := he
    have hmx : l0 ≤ 9223372036854775807 := by unfold maxLen at *; omega
    have one : ∀ i, i < l0 → ∃ t : Sp, (w.cell? (a.add (i * 2)) = some (.int .i64 t.1) ∧ w.cell? (a.add (i * 2 + 1)) = some (.int .i64 t.2)) ∧ spI t.1 ∧ spI t.2 := by
      intro i hi
      have h1 := hel i hi
      rw [List.getElem?_eq_getElem (by omega)] at h1
      obtain ⟨cs', h2, h3⟩ := Option.bind_eq_some_iff.1 h1
      rw [show Tryz.prog.cellsOf 27 = 2 from by kernel_rfl] at h2
      obtain ⟨_, hcl, hcell⟩ := World.cells?_some h2
      obtain ⟨x, y, rfl, hw1, hw2⟩ := spOpen1 h3
      have e0 := hcell 0 (by omega)
      have e1 := hcell 1 (by omega)
      simp [Deep.add_add] at e0 e1
      exact ⟨(x, y), ⟨e0, e1⟩, hw1, hw2⟩
    obtain ⟨l, hll, hp⟩ := spList l0 one
    subst hll
    refine ⟨some a, _, l, rfl, fun i t ht => ?_, fun t ht => ?_, hmx, hl⟩
    · obtain ⟨⟨e0, e1⟩, _⟩ := hp i t ht
      obtain ⟨t0, ht0⟩ : ∃ t0, l[0]? = some t0 := ⟨_, List.getElem?_eq_getElem (by have := (List.getElem?_eq_some_iff.1 ht).1; omega)⟩
      obtain ⟨⟨f0, _⟩, _⟩ := hp 0 t0 ht0
      rw [Nat.zero_mul] at f0
      obtain ⟨b, off, rfl⟩ := spSpot f0
      exact ⟨b, off, rfl, trivial, by simpa [Addr.add_lit] using e0, by simpa [Addr.add_lit, Nat.add_assoc] using e1⟩
    · obtain ⟨i, hi⟩ := List.getElem?_of_mem ht
      exact (hp i t hi).2
end
end Go.Proofs.YtdlcakmjihfgfaaGreatDoor
end
section
/-
  What the row's condition on listed variables gives in chapter 20: strings.asciiSpace holds its table. No condition.
-/
namespace Go.Proofs.YtdlcakmjihfgfaaGreatDoor
open Go.ChangeShapes Go.WideShapes Go.ChangeAt Go.RowKit

set_option maxRecDepth 100000 in
theorem ascii_data : (Rows.laid_strings_asciiSpace : DataW Unit) = Lib.tabData .u8 Lib.asciiSpaceTab := by rfl
set_option maxRecDepth 100000 in
theorem spacesB_of_laid {W : World} {x y : String × DataW Unit} {r : List (String × DataW Unit)} (h : laidMet Tryz.prog (x :: y :: ("strings.asciiSpace", Rows.laid_strings_asciiSpace) :: r) W) : Lx.Spaces W := by
  have h2 := laidMet.tail (laidMet.tail h)
  rw [ascii_data] at h2
  exact Lib.tabIs_of_head (g := 2) (n := 256) (by kernel_rfl) (by kernel_rfl) (t := 121) (e := 5) Tryz.underlying121 Tryz.underlying5 (by kernel_rfl) (by kernel_rfl) h2
end Go.Proofs.YtdlcakmjihfgfaaGreatDoor
end
