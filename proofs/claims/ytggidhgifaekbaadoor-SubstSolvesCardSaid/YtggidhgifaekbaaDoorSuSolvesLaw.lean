/-
  The law SubstSolves: it returns true. Conditions: the rows lie in memory; their numbers are in range; the table of powers of ten holds what its initialiser lays.
-/
import Derived.Test.YtggidhgifaekbaaDoorSuRefSolves
import Derived.Test.YtggidhgifaekbaaDoorSuAwake
import Derived.Test.YtggidhgifaekbaaDoorSuGreat
namespace Go.Proofs.YtggidhgifaekbaaDoor
open Go.RowKit Go.Maps

set_option maxHeartbeats 4000000 in
set_option maxRecDepth 100000 in
theorem substSolves_all (l : List Bd) (es : List Eqn) (w : World) (o : Option Addr) (cap : Nat) (oe : Option Addr) (cape : Nat) (hs : BindsAt w o l) (he : EqsAt w oe es) (hw : ∀ t ∈ l, wfI t.1 ∧ wfI t.2.2.1 ∧ wfF t.2.2.2) (hwe : ∀ t ∈ es, (wfI t.1.2.1 ∧ wfF t.1.2.2) ∧ wfI t.2.1.2.1 ∧ wfF t.2.1.2.2)
    (hz : l.length ≤ 9223372036854775807) (hze : es.length ≤ 9223372036854775807) (ht : Pow10 w) :
    Calls Tryd.prog 8 #[.slice o l.length cap, .slice oe es.length cape] w fun e w' => e = .returned (.bool true) ∧ Quiet0 w w' := by
  have HA := Lib.hid (fun (W : World) (hq : Quiet0 w W) => awake10_any W (ht.stay hq))
  have HG := Lib.hid (great10_any l w o cap hs hz)
  have HG2 := Lib.hid (fun (W : World) (hq : Quiet0 w W) => greats_any es W oe cape (he.stay hq) hze)
  have HS1 := Lib.hid (fun (h : Few10 l) (h2 : FewEq es) (W : World) (hq : Quiet0 w W) => solves_any l es W o cap oe cape (hs.stay hq) (he.stay hq) (fun t h => (hw t h).1) (by have := h.1; omega) (by have := h2.1; omega) (fun t ht => by have := h.2 t ht; omega)
    (fun t ht => ⟨⟨by have := (h2.2 t ht).1; omega, (hwe t ht).1⟩, by have := (h2.2 t ht).2; omega, (hwe t ht).2⟩))
  have HS2 := Lib.hid (fun (h : Few10 l) (h2 : FewEq es) (W : World) (hq : Quiet0 w W) => refSolves_any l es W o cap oe cape (hs.stay hq) (he.stay hq) (by have := h.1; omega) (by have := h2.1; omega) (fun t ht => ⟨by have := (h2.2 t ht).1; omega, by have := (h2.2 t ht).2; omega⟩))
  generalize es.all (eqP l) = r at *
  clear hs he hw hwe hz hze ht
  go_enter Tryd.func8, Tryd.ntmps8
  go_wp2_with fail
  refine HG.out.mono ?_; rintro e w1 ⟨g, rfl, hg, hq1⟩
  have HQ1 := Lib.hid hq1
  have HF := Lib.hid hg
  clear hq1 hg
  cases g
  · have HF0 := Lib.hid (HF.out rfl)
    go_wp2_with fail
    refine (HG2.out _ HQ1.out).mono ?_; rintro e w2 ⟨g, rfl, hg, hq2⟩
    have HQ2 := Lib.hid (HQ1.out.trans hq2)
    have HF2 := Lib.hid hg
    clear hq2 hg
    cases g
    · have HF20 := Lib.hid (HF2.out rfl)
      go_wp2_with fail
      refine (HS1.out HF0.out HF20.out _ HQ2.out).mono ?_; rintro e w3 ⟨rfl, hq3⟩
      have HQ3 := Lib.hid (HQ2.out.trans hq3)
      clear hq3
      go_wp2_with fail
      refine (HS2.out HF0.out HF20.out _ HQ3.out).mono ?_; rintro e w4 ⟨rfl, hq4⟩
      have HQ4 := Lib.hid (HQ3.out.trans hq4)
      clear hq4
      go_wp2_with fail
      refine (HA.out _ HQ4.out).mono ?_; rintro e w5 ⟨rfl, hq5⟩
      go_wp2_with fail
      go_ret
      exact ⟨rfl, HQ4.out.trans hq5⟩
    · go_wp2_with fail
      refine (HA.out _ HQ2.out).mono ?_; rintro e w3 ⟨rfl, hq3⟩
      go_wp2_with fail
      go_ret
      exact ⟨rfl, HQ2.out.trans hq3⟩
  · go_wp2_with fail
    refine (HA.out _ HQ1.out).mono ?_; rintro e w3 ⟨rfl, hq3⟩
    go_wp2_with fail
    go_ret
    exact ⟨rfl, HQ1.out.trans hq3⟩
end Go.Proofs.YtggidhgifaekbaaDoor
