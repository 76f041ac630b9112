/-
  ref.Equal of two terms. Condition: both lie in memory as told.
-/
import Derived.Test.YtggidhgifaekbaaDoorTePair
namespace Go.Proofs.YtggidhgifaekbaaDoor
open Go.RowKit Go.Shelf

set_option maxHeartbeats 1000000 in
theorem refEqualT_any (a : Nd) (p : To) (b : Nd) (q : To) (w : World) (R : Nat → Prop) (o1 : Option Addr) (l1 c1 : Nat) (o2 : Option Addr) (l2 c2 : Nat) (p1 : Option Addr) (m1 d1 : Nat) (p2 : Option Addr) (m2 d2 : Nat)
    (h1 : SlcIn R w o1 l1 a.tp) (h2 : TSlc R w o2 l2 p) (h3 : SlcIn R w p1 m1 b.tp) (h4 : TSlc R w p2 m2 q) :
    Calls Tryd.prog 23 #[tmv a o1 l1 c1 o2 l2 c2, tmv b p1 m1 d1 p2 m2 d2] w fun e w' => e = .returned (.bool (alikeT true a p b q)) ∧ Quiet0 w w' := by
  have HC := Lib.hid (fun (W : World) (hq : Quiet0 w W) => refSameT_any true a p b q W o1 l1 c1 o2 l2 c2 p1 m1 d1 p2 m2 d2 R (h1.stay hq) (h2.stay hq) (h3.stay hq) (h4.stay hq))
  generalize alikeT true a p b q = r at *
  clear h1 h2 h3 h4
  unfold tmv at *
  go_enter Tryd.func23, Tryd.ntmps23
  go_wp2_with fail
  refine (HC.out _ ((Quiet0.alloc _ _).trans (Quiet0.alloc _ _))).mono ?_; rintro e w1 ⟨rfl, hq⟩
  go_wp2_with fail
  go_ret
  exact ⟨rfl, ((Quiet0.alloc _ _).trans (Quiet0.alloc _ _)).trans hq⟩
end Go.Proofs.YtggidhgifaekbaaDoor
