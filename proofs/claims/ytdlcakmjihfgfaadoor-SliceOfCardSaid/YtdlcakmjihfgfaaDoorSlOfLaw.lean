/-
  The law SliceOf: it returns true. Condition: the equations and the numbers lie in memory.
-/
import Derived.Test.YtdlcakmjihfgfaaDoorSlOf
import Derived.Test.YtdlcakmjihfgfaaDoorSpRef
import Derived.Test.YtdlcakmjihfgfaaDoorSlAwake
namespace Go.Proofs.YtdlcakmjihfgfaaDoor
open Go.RowKit SpanPlain

set_option maxRecDepth 100000 in
set_option maxHeartbeats 4000000 in
theorem sliceOf_all (l : List Eqn) (o : Option Addr) (cap : Nat) (ns : List Int) (o2 : Option Addr) (cap2 : Nat) (w : World) (hs : EqsAt w o l) (hi : IntsAt w o2 ns) (hz1 : l.length ≤ 9223372036854775807) (hz2 : ns.length ≤ 9223372036854775807) :
    Calls Tryd.prog 5 #[.slice o l.length cap, .slice o2 ns.length cap2] w fun e w' => e = .returned (.bool true) ∧ Quiet0 w w' := by
  have HS := Lib.hid hs
  have HI := Lib.hid hi
  have HG := Lib.hid (greats_any l w o cap hs hz1)
  have HA : Hid (∀ W, Calls Tryd.prog 6 #[] W fun e w' => e = .returned (.bool true) ∧ Quiet0 W w') := fun W => awakeSl_any W
  clear hs hi
  go_enter Tryd.func5, Tryd.ntmps5
  go_wp2_with fail
  refine HG.out.mono ?_; rintro e w1 ⟨g, rfl, hg, hq1⟩
  have HQ1 := Lib.hid hq1
  have HGG := Lib.hid hg
  clear hg hq1
  cases g
  · have hf := HGG.out rfl
    by_cases h60 : 60 < ns.length
    · have h60' : (60 : Int) < ns.length := by omega
      clear hf
      go_wp2_with fail
      refine (HA.out _).mono ?_; rintro e w2 ⟨rfl, hq2⟩
      have HQ2 := Lib.hid (HQ1.out.trans hq2)
      clear hq2
      go_wp2_with fail
      go_ret
      exact ⟨rfl, HQ2.out⟩
    · have h60' : ¬ (60 : Int) < ns.length := by omega
      have hpl := picks_length l ns
      have hrl := rmerge_length (picks l ns)
      have hf1 := hf.1
      have HO := Lib.hid (fun (W : World) (h : Quiet0 w W) => ofS_any l o cap ns o2 cap2 W (HS.out.stay h) (HI.out.stay h) hf (by omega))
      have HR := Lib.hid (fun (W : World) (h : Quiet0 w W) => refOfS_any l o cap ns o2 cap2 W (HS.out.stay h) (HI.out.stay h) (by omega) (by omega))
      generalize rmerge (picks l ns) = M at *
      have hml : M.length ≤ 1000 := by omega
      clear hf hpl hrl
      go_wp2_with fail
      refine (HO.out _ HQ1.out).mono ?_; rintro e w2 ⟨v2, rfl, hr2, hq2⟩
      obtain ⟨o3, c3, rfl, _⟩ := hr2.form
      have HS2 := Lib.hid hr2.slc
      have HQ2 := Lib.hid (HQ1.out.trans hq2)
      clear hr2 hq2
      go_wp2_with fail
      refine (HR.out _ HQ2.out).mono ?_; rintro e w3 ⟨v3, rfl, hr3, hq3⟩
      obtain ⟨o4, c4, rfl, _⟩ := hr3.form
      have HC := Lib.hid (refSameS_any M M o3 c3 o4 c4 w3 _ _ (HS2.out.stay hq3) hr3.slc (by omega) (by omega))
      rw [show decide (M = M) = true from by simp] at HC
      have HQ3 := Lib.hid (HQ2.out.trans hq3)
      clear hr3 hq3
      go_wp2_with fail
      refine HC.out.mono ?_; rintro e w4 ⟨rfl, hq4⟩
      have HQ4 := Lib.hid (HQ3.out.trans hq4)
      clear hq4
      go_wp2_with fail
      refine (HA.out _).mono ?_; rintro e w5 ⟨rfl, hq5⟩
      have HQ5 := Lib.hid (HQ4.out.trans hq5)
      clear hq5
      go_wp2_with fail
      go_ret
      exact ⟨rfl, HQ5.out⟩
  · go_wp2_with fail
    refine (HA.out _).mono ?_; rintro e w2 ⟨rfl, hq2⟩
    have HQ2 := Lib.hid (HQ1.out.trans hq2)
    clear hq2
    go_wp2_with fail
    go_ret
    exact ⟨rfl, HQ2.out⟩
end Go.Proofs.YtdlcakmjihfgfaaDoor
