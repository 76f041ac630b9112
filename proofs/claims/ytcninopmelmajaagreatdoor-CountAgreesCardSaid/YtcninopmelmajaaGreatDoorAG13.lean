/-
  Texts laid together (EqHeld, EqTVar, EqTLam, EqTApp, EqKept): laws and walks, with their conditions.
-/
import Derived.Test.YtcninopmelmajaaGreatDoorAG12
set_option maxHeartbeats 8000000
set_option maxRecDepth 1000000
namespace Go.Proofs.YtcninopmelmajaaGreatDoor
open Go.Lib (hid)
section
open Go.RowKit
namespace Hd
section
variable {P : Program} {md : Region.Mode} {ops : Array Oper} {Q : Exit -> Act -> World -> Prop} {S S' : World -> Prop}
theorem more (hS : ∀ w, S' w -> S w) : ∀ (fuel : Nat) (listed : Array Bool) (a : Act) (w : World), wpAnyH P md ops Q S' fuel listed a w -> wpAnyH P md ops Q S fuel listed a w
 | 0, _, _, _, h => h
 | fuel + 1, _, _, _, h => ⟨h.1, fun i hi => wpOp_mono (fun a' w' h' => ⟨hS w' h'.1, more hS fuel _ a' w' h'.2⟩) (h.2 i hi)⟩
theorem take0 {oi : Oper} {r : List Oper} {v : Value} {fuel : Nat} {listed : Array Bool} {a : Act} {w : World}
    (hs : Region.noSelect (oi :: r).toArray = true) (hf : Region.free md (oi :: r).toArray listed 0 = true) (hr : (Region.ready md (oi :: r).toArray listed).contains 0 = true)
    (hQ : ∀ c a w, Q (.panic c) (a.put oi.dst v) w -> Q (.panic c) a w) (hy : YieldsIf P (oi :: r).toArray S oi v a) (hS : S w)
    (h : wpAnyH P md (oi :: r).toArray Q S fuel (listed.setIfInBounds 0 true) (a.put oi.dst v) w) : wpAnyH P md (oi :: r).toArray Q S (fuel + 1) listed a w :=
 wpAnyH_take (i := 0) rfl hs hf hr hQ hy hS h
theorem take1 {o0 oi : Oper} {r : List Oper} {v : Value} {fuel : Nat} {listed : Array Bool} {a : Act} {w : World}
    (hs : Region.noSelect (o0 :: oi :: r).toArray = true) (hf : Region.free md (o0 :: oi :: r).toArray listed 1 = true) (hr : (Region.ready md (o0 :: oi :: r).toArray listed).contains 1 = true)
    (hQ : ∀ c a w, Q (.panic c) (a.put oi.dst v) w -> Q (.panic c) a w) (hy : YieldsIf P (o0 :: oi :: r).toArray S oi v a) (hS : S w)
    (h : wpAnyH P md (o0 :: oi :: r).toArray Q S fuel (listed.setIfInBounds 1 true) (a.put oi.dst v) w) : wpAnyH P md (o0 :: oi :: r).toArray Q S (fuel + 1) listed a w :=
 wpAnyH_take (i := 1) rfl hs hf hr hQ hy hS h
theorem take2 {o0 o1 oi : Oper} {r : List Oper} {v : Value} {fuel : Nat} {listed : Array Bool} {a : Act} {w : World}
    (hs : Region.noSelect (o0 :: o1 :: oi :: r).toArray = true) (hf : Region.free md (o0 :: o1 :: oi :: r).toArray listed 2 = true) (hr : (Region.ready md (o0 :: o1 :: oi :: r).toArray listed).contains 2 = true)
    (hQ : ∀ c a w, Q (.panic c) (a.put oi.dst v) w -> Q (.panic c) a w) (hy : YieldsIf P (o0 :: o1 :: oi :: r).toArray S oi v a) (hS : S w)
    (h : wpAnyH P md (o0 :: o1 :: oi :: r).toArray Q S fuel (listed.setIfInBounds 2 true) (a.put oi.dst v) w) : wpAnyH P md (o0 :: o1 :: oi :: r).toArray Q S (fuel + 1) listed a w :=
 wpAnyH_take (i := 2) rfl hs hf hr hQ hy hS h
theorem take3 {o0 o1 o2 oi : Oper} {r : List Oper} {v : Value} {fuel : Nat} {listed : Array Bool} {a : Act} {w : World}
    (hs : Region.noSelect (o0 :: o1 :: o2 :: oi :: r).toArray = true) (hf : Region.free md (o0 :: o1 :: o2 :: oi :: r).toArray listed 3 = true) (hr : (Region.ready md (o0 :: o1 :: o2 :: oi :: r).toArray listed).contains 3 = true)
    (hQ : ∀ c a w, Q (.panic c) (a.put oi.dst v) w -> Q (.panic c) a w) (hy : YieldsIf P (o0 :: o1 :: o2 :: oi :: r).toArray S oi v a) (hS : S w)
    (h : wpAnyH P md (o0 :: o1 :: o2 :: oi :: r).toArray Q S fuel (listed.setIfInBounds 3 true) (a.put oi.dst v) w) : wpAnyH P md (o0 :: o1 :: o2 :: oi :: r).toArray Q S (fuel + 1) listed a w :=
 wpAnyH_take (i := 3) rfl hs hf hr hQ hy hS h
theorem take4 {o0 o1 o2 o3 oi : Oper} {r : List Oper} {v : Value} {fuel : Nat} {listed : Array Bool} {a : Act} {w : World}
    (hs : Region.noSelect (o0 :: o1 :: o2 :: o3 :: oi :: r).toArray = true) (hf : Region.free md (o0 :: o1 :: o2 :: o3 :: oi :: r).toArray listed 4 = true) (hr : (Region.ready md (o0 :: o1 :: o2 :: o3 :: oi :: r).toArray listed).contains 4 = true)
    (hQ : ∀ c a w, Q (.panic c) (a.put oi.dst v) w -> Q (.panic c) a w) (hy : YieldsIf P (o0 :: o1 :: o2 :: o3 :: oi :: r).toArray S oi v a) (hS : S w)
    (h : wpAnyH P md (o0 :: o1 :: o2 :: o3 :: oi :: r).toArray Q S fuel (listed.setIfInBounds 4 true) (a.put oi.dst v) w) : wpAnyH P md (o0 :: o1 :: o2 :: o3 :: oi :: r).toArray Q S (fuel + 1) listed a w :=
 wpAnyH_take (i := 4) rfl hs hf hr hQ hy hS h
theorem cons4 {o0 o1 o2 o3 oi : Oper} {r : List Oper} {fuel : Nat} {listed : Array Bool} {a : Act} {w : World} {rs : List Nat}
    (h : ∀ K' : Act -> World -> Prop, Shut (∀ a w, S w -> (S w -> wpAnyH P md (o0 :: o1 :: o2 :: o3 :: oi :: r).toArray Q S fuel (listed.setIfInBounds 4 true) a w) -> K' a w) -> if Region.wanted oi (yielded (o0 :: o1 :: o2 :: o3 :: oi :: r).toArray a.tmps) = true then Oper.wp P oi a w K' Q else K' (a.put oi.dst undef) w)
    (hs : AllReadyH P md (o0 :: o1 :: o2 :: o3 :: oi :: r).toArray Q S fuel listed a w rs) : AllReadyH P md (o0 :: o1 :: o2 :: o3 :: oi :: r).toArray Q S fuel listed a w (4 :: rs) := AllReadyH.cons (i := 4) rfl h hs
theorem take5 {o0 o1 o2 o3 o4 oi : Oper} {r : List Oper} {v : Value} {fuel : Nat} {listed : Array Bool} {a : Act} {w : World}
    (hs : Region.noSelect (o0 :: o1 :: o2 :: o3 :: o4 :: oi :: r).toArray = true) (hf : Region.free md (o0 :: o1 :: o2 :: o3 :: o4 :: oi :: r).toArray listed 5 = true) (hr : (Region.ready md (o0 :: o1 :: o2 :: o3 :: o4 :: oi :: r).toArray listed).contains 5 = true)
    (hQ : ∀ c a w, Q (.panic c) (a.put oi.dst v) w -> Q (.panic c) a w) (hy : YieldsIf P (o0 :: o1 :: o2 :: o3 :: o4 :: oi :: r).toArray S oi v a) (hS : S w)
    (h : wpAnyH P md (o0 :: o1 :: o2 :: o3 :: o4 :: oi :: r).toArray Q S fuel (listed.setIfInBounds 5 true) (a.put oi.dst v) w) : wpAnyH P md (o0 :: o1 :: o2 :: o3 :: o4 :: oi :: r).toArray Q S (fuel + 1) listed a w :=
 wpAnyH_take (i := 5) rfl hs hf hr hQ hy hS h
theorem take6 {o0 o1 o2 o3 o4 o5 oi : Oper} {r : List Oper} {v : Value} {fuel : Nat} {listed : Array Bool} {a : Act} {w : World}
    (hs : Region.noSelect (o0 :: o1 :: o2 :: o3 :: o4 :: o5 :: oi :: r).toArray = true) (hf : Region.free md (o0 :: o1 :: o2 :: o3 :: o4 :: o5 :: oi :: r).toArray listed 6 = true) (hr : (Region.ready md (o0 :: o1 :: o2 :: o3 :: o4 :: o5 :: oi :: r).toArray listed).contains 6 = true)
    (hQ : ∀ c a w, Q (.panic c) (a.put oi.dst v) w -> Q (.panic c) a w) (hy : YieldsIf P (o0 :: o1 :: o2 :: o3 :: o4 :: o5 :: oi :: r).toArray S oi v a) (hS : S w)
    (h : wpAnyH P md (o0 :: o1 :: o2 :: o3 :: o4 :: o5 :: oi :: r).toArray Q S fuel (listed.setIfInBounds 6 true) (a.put oi.dst v) w) : wpAnyH P md (o0 :: o1 :: o2 :: o3 :: o4 :: o5 :: oi :: r).toArray Q S (fuel + 1) listed a w :=
 wpAnyH_take (i := 6) rfl hs hf hr hQ hy hS h
theorem take7 {o0 o1 o2 o3 o4 o5 o6 oi : Oper} {r : List Oper} {v : Value} {fuel : Nat} {listed : Array Bool} {a : Act} {w : World}
    (hs : Region.noSelect (o0 :: o1 :: o2 :: o3 :: o4 :: o5 :: o6 :: oi :: r).toArray = true) (hf : Region.free md (o0 :: o1 :: o2 :: o3 :: o4 :: o5 :: o6 :: oi :: r).toArray listed 7 = true) (hr : (Region.ready md (o0 :: o1 :: o2 :: o3 :: o4 :: o5 :: o6 :: oi :: r).toArray listed).contains 7 = true)
    (hQ : ∀ c a w, Q (.panic c) (a.put oi.dst v) w -> Q (.panic c) a w) (hy : YieldsIf P (o0 :: o1 :: o2 :: o3 :: o4 :: o5 :: o6 :: oi :: r).toArray S oi v a) (hS : S w)
    (h : wpAnyH P md (o0 :: o1 :: o2 :: o3 :: o4 :: o5 :: o6 :: oi :: r).toArray Q S fuel (listed.setIfInBounds 7 true) (a.put oi.dst v) w) : wpAnyH P md (o0 :: o1 :: o2 :: o3 :: o4 :: o5 :: o6 :: oi :: r).toArray Q S (fuel + 1) listed a w :=
 wpAnyH_take (i := 7) rfl hs hf hr hQ hy hS h
theorem take8 {o0 o1 o2 o3 o4 o5 o6 o7 oi : Oper} {r : List Oper} {v : Value} {fuel : Nat} {listed : Array Bool} {a : Act} {w : World}
    (hs : Region.noSelect (o0 :: o1 :: o2 :: o3 :: o4 :: o5 :: o6 :: o7 :: oi :: r).toArray = true) (hf : Region.free md (o0 :: o1 :: o2 :: o3 :: o4 :: o5 :: o6 :: o7 :: oi :: r).toArray listed 8 = true) (hr : (Region.ready md (o0 :: o1 :: o2 :: o3 :: o4 :: o5 :: o6 :: o7 :: oi :: r).toArray listed).contains 8 = true)
    (hQ : ∀ c a w, Q (.panic c) (a.put oi.dst v) w -> Q (.panic c) a w) (hy : YieldsIf P (o0 :: o1 :: o2 :: o3 :: o4 :: o5 :: o6 :: o7 :: oi :: r).toArray S oi v a) (hS : S w)
    (h : wpAnyH P md (o0 :: o1 :: o2 :: o3 :: o4 :: o5 :: o6 :: o7 :: oi :: r).toArray Q S fuel (listed.setIfInBounds 8 true) (a.put oi.dst v) w) : wpAnyH P md (o0 :: o1 :: o2 :: o3 :: o4 :: o5 :: o6 :: o7 :: oi :: r).toArray Q S (fuel + 1) listed a w :=
 wpAnyH_take (i := 8) rfl hs hf hr hQ hy hS h
theorem cons9 {o0 o1 o2 o3 o4 o5 o6 o7 o8 oi : Oper} {r : List Oper} {fuel : Nat} {listed : Array Bool} {a : Act} {w : World} {rs : List Nat}
    (h : ∀ K' : Act -> World -> Prop, Shut (∀ a w, S w -> (S w -> wpAnyH P md (o0 :: o1 :: o2 :: o3 :: o4 :: o5 :: o6 :: o7 :: o8 :: oi :: r).toArray Q S fuel (listed.setIfInBounds 9 true) a w) -> K' a w) -> if Region.wanted oi (yielded (o0 :: o1 :: o2 :: o3 :: o4 :: o5 :: o6 :: o7 :: o8 :: oi :: r).toArray a.tmps) = true then Oper.wp P oi a w K' Q else K' (a.put oi.dst undef) w)
    (hs : AllReadyH P md (o0 :: o1 :: o2 :: o3 :: o4 :: o5 :: o6 :: o7 :: o8 :: oi :: r).toArray Q S fuel listed a w rs) : AllReadyH P md (o0 :: o1 :: o2 :: o3 :: o4 :: o5 :: o6 :: o7 :: o8 :: oi :: r).toArray Q S fuel listed a w (9 :: rs) := AllReadyH.cons (i := 9) rfl h hs
theorem take10 {o0 o1 o2 o3 o4 o5 o6 o7 o8 o9 oi : Oper} {r : List Oper} {v : Value} {fuel : Nat} {listed : Array Bool} {a : Act} {w : World}
    (hs : Region.noSelect (o0 :: o1 :: o2 :: o3 :: o4 :: o5 :: o6 :: o7 :: o8 :: o9 :: oi :: r).toArray = true) (hf : Region.free md (o0 :: o1 :: o2 :: o3 :: o4 :: o5 :: o6 :: o7 :: o8 :: o9 :: oi :: r).toArray listed 10 = true) (hr : (Region.ready md (o0 :: o1 :: o2 :: o3 :: o4 :: o5 :: o6 :: o7 :: o8 :: o9 :: oi :: r).toArray listed).contains 10 = true)
    (hQ : ∀ c a w, Q (.panic c) (a.put oi.dst v) w -> Q (.panic c) a w) (hy : YieldsIf P (o0 :: o1 :: o2 :: o3 :: o4 :: o5 :: o6 :: o7 :: o8 :: o9 :: oi :: r).toArray S oi v a) (hS : S w)
    (h : wpAnyH P md (o0 :: o1 :: o2 :: o3 :: o4 :: o5 :: o6 :: o7 :: o8 :: o9 :: oi :: r).toArray Q S fuel (listed.setIfInBounds 10 true) (a.put oi.dst v) w) : wpAnyH P md (o0 :: o1 :: o2 :: o3 :: o4 :: o5 :: o6 :: o7 :: o8 :: o9 :: oi :: r).toArray Q S (fuel + 1) listed a w :=
 wpAnyH_take (i := 10) rfl hs hf hr hQ hy hS h
theorem cons10 {o0 o1 o2 o3 o4 o5 o6 o7 o8 o9 oi : Oper} {r : List Oper} {fuel : Nat} {listed : Array Bool} {a : Act} {w : World} {rs : List Nat}
    (h : ∀ K' : Act -> World -> Prop, Shut (∀ a w, S w -> (S w -> wpAnyH P md (o0 :: o1 :: o2 :: o3 :: o4 :: o5 :: o6 :: o7 :: o8 :: o9 :: oi :: r).toArray Q S fuel (listed.setIfInBounds 10 true) a w) -> K' a w) -> if Region.wanted oi (yielded (o0 :: o1 :: o2 :: o3 :: o4 :: o5 :: o6 :: o7 :: o8 :: o9 :: oi :: r).toArray a.tmps) = true then Oper.wp P oi a w K' Q else K' (a.put oi.dst undef) w)
    (hs : AllReadyH P md (o0 :: o1 :: o2 :: o3 :: o4 :: o5 :: o6 :: o7 :: o8 :: o9 :: oi :: r).toArray Q S fuel listed a w rs) : AllReadyH P md (o0 :: o1 :: o2 :: o3 :: o4 :: o5 :: o6 :: o7 :: o8 :: o9 :: oi :: r).toArray Q S fuel listed a w (10 :: rs) := AllReadyH.cons (i := 10) rfl h hs
theorem take11 {o0 o1 o2 o3 o4 o5 o6 o7 o8 o9 o10 oi : Oper} {r : List Oper} {v : Value} {fuel : Nat} {listed : Array Bool} {a : Act} {w : World}
    (hs : Region.noSelect (o0 :: o1 :: o2 :: o3 :: o4 :: o5 :: o6 :: o7 :: o8 :: o9 :: o10 :: oi :: r).toArray = true) (hf : Region.free md (o0 :: o1 :: o2 :: o3 :: o4 :: o5 :: o6 :: o7 :: o8 :: o9 :: o10 :: oi :: r).toArray listed 11 = true) (hr : (Region.ready md (o0 :: o1 :: o2 :: o3 :: o4 :: o5 :: o6 :: o7 :: o8 :: o9 :: o10 :: oi :: r).toArray listed).contains 11 = true)
    (hQ : ∀ c a w, Q (.panic c) (a.put oi.dst v) w -> Q (.panic c) a w) (hy : YieldsIf P (o0 :: o1 :: o2 :: o3 :: o4 :: o5 :: o6 :: o7 :: o8 :: o9 :: o10 :: oi :: r).toArray S oi v a) (hS : S w)
    (h : wpAnyH P md (o0 :: o1 :: o2 :: o3 :: o4 :: o5 :: o6 :: o7 :: o8 :: o9 :: o10 :: oi :: r).toArray Q S fuel (listed.setIfInBounds 11 true) (a.put oi.dst v) w) : wpAnyH P md (o0 :: o1 :: o2 :: o3 :: o4 :: o5 :: o6 :: o7 :: o8 :: o9 :: o10 :: oi :: r).toArray Q S (fuel + 1) listed a w :=
 wpAnyH_take (i := 11) rfl hs hf hr hQ hy hS h
theorem cons11 {o0 o1 o2 o3 o4 o5 o6 o7 o8 o9 o10 oi : Oper} {r : List Oper} {fuel : Nat} {listed : Array Bool} {a : Act} {w : World} {rs : List Nat}
    (h : ∀ K' : Act -> World -> Prop, Shut (∀ a w, S w -> (S w -> wpAnyH P md (o0 :: o1 :: o2 :: o3 :: o4 :: o5 :: o6 :: o7 :: o8 :: o9 :: o10 :: oi :: r).toArray Q S fuel (listed.setIfInBounds 11 true) a w) -> K' a w) -> if Region.wanted oi (yielded (o0 :: o1 :: o2 :: o3 :: o4 :: o5 :: o6 :: o7 :: o8 :: o9 :: o10 :: oi :: r).toArray a.tmps) = true then Oper.wp P oi a w K' Q else K' (a.put oi.dst undef) w)
    (hs : AllReadyH P md (o0 :: o1 :: o2 :: o3 :: o4 :: o5 :: o6 :: o7 :: o8 :: o9 :: o10 :: oi :: r).toArray Q S fuel listed a w rs) : AllReadyH P md (o0 :: o1 :: o2 :: o3 :: o4 :: o5 :: o6 :: o7 :: o8 :: o9 :: o10 :: oi :: r).toArray Q S fuel listed a w (11 :: rs) := AllReadyH.cons (i := 11) rfl h hs
theorem take12 {o0 o1 o2 o3 o4 o5 o6 o7 o8 o9 o10 o11 oi : Oper} {r : List Oper} {v : Value} {fuel : Nat} {listed : Array Bool} {a : Act} {w : World}
    (hs : Region.noSelect (o0 :: o1 :: o2 :: o3 :: o4 :: o5 :: o6 :: o7 :: o8 :: o9 :: o10 :: o11 :: oi :: r).toArray = true) (hf : Region.free md (o0 :: o1 :: o2 :: o3 :: o4 :: o5 :: o6 :: o7 :: o8 :: o9 :: o10 :: o11 :: oi :: r).toArray listed 12 = true) (hr : (Region.ready md (o0 :: o1 :: o2 :: o3 :: o4 :: o5 :: o6 :: o7 :: o8 :: o9 :: o10 :: o11 :: oi :: r).toArray listed).contains 12 = true)
    (hQ : ∀ c a w, Q (.panic c) (a.put oi.dst v) w -> Q (.panic c) a w) (hy : YieldsIf P (o0 :: o1 :: o2 :: o3 :: o4 :: o5 :: o6 :: o7 :: o8 :: o9 :: o10 :: o11 :: oi :: r).toArray S oi v a) (hS : S w)
    (h : wpAnyH P md (o0 :: o1 :: o2 :: o3 :: o4 :: o5 :: o6 :: o7 :: o8 :: o9 :: o10 :: o11 :: oi :: r).toArray Q S fuel (listed.setIfInBounds 12 true) (a.put oi.dst v) w) : wpAnyH P md (o0 :: o1 :: o2 :: o3 :: o4 :: o5 :: o6 :: o7 :: o8 :: o9 :: o10 :: o11 :: oi :: r).toArray Q S (fuel + 1) listed a w :=
 wpAnyH_take (i := 12) rfl hs hf hr hQ hy hS h
theorem cons12 {o0 o1 o2 o3 o4 o5 o6 o7 o8 o9 o10 o11 oi : Oper} {r : List Oper} {fuel : Nat} {listed : Array Bool} {a : Act} {w : World} {rs : List Nat}
    (h : ∀ K' : Act -> World -> Prop, Shut (∀ a w, S w -> (S w -> wpAnyH P md (o0 :: o1 :: o2 :: o3 :: o4 :: o5 :: o6 :: o7 :: o8 :: o9 :: o10 :: o11 :: oi :: r).toArray Q S fuel (listed.setIfInBounds 12 true) a w) -> K' a w) -> if Region.wanted oi (yielded (o0 :: o1 :: o2 :: o3 :: o4 :: o5 :: o6 :: o7 :: o8 :: o9 :: o10 :: o11 :: oi :: r).toArray a.tmps) = true then Oper.wp P oi a w K' Q else K' (a.put oi.dst undef) w)
    (hs : AllReadyH P md (o0 :: o1 :: o2 :: o3 :: o4 :: o5 :: o6 :: o7 :: o8 :: o9 :: o10 :: o11 :: oi :: r).toArray Q S fuel listed a w rs) : AllReadyH P md (o0 :: o1 :: o2 :: o3 :: o4 :: o5 :: o6 :: o7 :: o8 :: o9 :: o10 :: o11 :: oi :: r).toArray Q S fuel listed a w (12 :: rs) := AllReadyH.cons (i := 12) rfl h hs
theorem take13 {o0 o1 o2 o3 o4 o5 o6 o7 o8 o9 o10 o11 o12 oi : Oper} {r : List Oper} {v : Value} {fuel : Nat} {listed : Array Bool} {a : Act} {w : World}
    (hs : Region.noSelect (o0 :: o1 :: o2 :: o3 :: o4 :: o5 :: o6 :: o7 :: o8 :: o9 :: o10 :: o11 :: o12 :: oi :: r).toArray = true) (hf : Region.free md (o0 :: o1 :: o2 :: o3 :: o4 :: o5 :: o6 :: o7 :: o8 :: o9 :: o10 :: o11 :: o12 :: oi :: r).toArray listed 13 = true) (hr : (Region.ready md (o0 :: o1 :: o2 :: o3 :: o4 :: o5 :: o6 :: o7 :: o8 :: o9 :: o10 :: o11 :: o12 :: oi :: r).toArray listed).contains 13 = true)
    (hQ : ∀ c a w, Q (.panic c) (a.put oi.dst v) w -> Q (.panic c) a w) (hy : YieldsIf P (o0 :: o1 :: o2 :: o3 :: o4 :: o5 :: o6 :: o7 :: o8 :: o9 :: o10 :: o11 :: o12 :: oi :: r).toArray S oi v a) (hS : S w)
    (h : wpAnyH P md (o0 :: o1 :: o2 :: o3 :: o4 :: o5 :: o6 :: o7 :: o8 :: o9 :: o10 :: o11 :: o12 :: oi :: r).toArray Q S fuel (listed.setIfInBounds 13 true) (a.put oi.dst v) w) : wpAnyH P md (o0 :: o1 :: o2 :: o3 :: o4 :: o5 :: o6 :: o7 :: o8 :: o9 :: o10 :: o11 :: o12 :: oi :: r).toArray Q S (fuel + 1) listed a w :=
 wpAnyH_take (i := 13) rfl hs hf hr hQ hy hS h
theorem cons13 {o0 o1 o2 o3 o4 o5 o6 o7 o8 o9 o10 o11 o12 oi : Oper} {r : List Oper} {fuel : Nat} {listed : Array Bool} {a : Act} {w : World} {rs : List Nat}
    (h : ∀ K' : Act -> World -> Prop, Shut (∀ a w, S w -> (S w -> wpAnyH P md (o0 :: o1 :: o2 :: o3 :: o4 :: o5 :: o6 :: o7 :: o8 :: o9 :: o10 :: o11 :: o12 :: oi :: r).toArray Q S fuel (listed.setIfInBounds 13 true) a w) -> K' a w) -> if Region.wanted oi (yielded (o0 :: o1 :: o2 :: o3 :: o4 :: o5 :: o6 :: o7 :: o8 :: o9 :: o10 :: o11 :: o12 :: oi :: r).toArray a.tmps) = true then Oper.wp P oi a w K' Q else K' (a.put oi.dst undef) w)
    (hs : AllReadyH P md (o0 :: o1 :: o2 :: o3 :: o4 :: o5 :: o6 :: o7 :: o8 :: o9 :: o10 :: o11 :: o12 :: oi :: r).toArray Q S fuel listed a w rs) : AllReadyH P md (o0 :: o1 :: o2 :: o3 :: o4 :: o5 :: o6 :: o7 :: o8 :: o9 :: o10 :: o11 :: o12 :: oi :: r).toArray Q S fuel listed a w (13 :: rs) := AllReadyH.cons (i := 13) rfl h hs
theorem take14 {o0 o1 o2 o3 o4 o5 o6 o7 o8 o9 o10 o11 o12 o13 oi : Oper} {r : List Oper} {v : Value} {fuel : Nat} {listed : Array Bool} {a : Act} {w : World}
    (hs : Region.noSelect (o0 :: o1 :: o2 :: o3 :: o4 :: o5 :: o6 :: o7 :: o8 :: o9 :: o10 :: o11 :: o12 :: o13 :: oi :: r).toArray = true) (hf : Region.free md (o0 :: o1 :: o2 :: o3 :: o4 :: o5 :: o6 :: o7 :: o8 :: o9 :: o10 :: o11 :: o12 :: o13 :: oi :: r).toArray listed 14 = true) (hr : (Region.ready md (o0 :: o1 :: o2 :: o3 :: o4 :: o5 :: o6 :: o7 :: o8 :: o9 :: o10 :: o11 :: o12 :: o13 :: oi :: r).toArray listed).contains 14 = true)
    (hQ : ∀ c a w, Q (.panic c) (a.put oi.dst v) w -> Q (.panic c) a w) (hy : YieldsIf P (o0 :: o1 :: o2 :: o3 :: o4 :: o5 :: o6 :: o7 :: o8 :: o9 :: o10 :: o11 :: o12 :: o13 :: oi :: r).toArray S oi v a) (hS : S w)
    (h : wpAnyH P md (o0 :: o1 :: o2 :: o3 :: o4 :: o5 :: o6 :: o7 :: o8 :: o9 :: o10 :: o11 :: o12 :: o13 :: oi :: r).toArray Q S fuel (listed.setIfInBounds 14 true) (a.put oi.dst v) w) : wpAnyH P md (o0 :: o1 :: o2 :: o3 :: o4 :: o5 :: o6 :: o7 :: o8 :: o9 :: o10 :: o11 :: o12 :: o13 :: oi :: r).toArray Q S (fuel + 1) listed a w :=
 wpAnyH_take (i := 14) rfl hs hf hr hQ hy hS h
theorem cons15 {o0 o1 o2 o3 o4 o5 o6 o7 o8 o9 o10 o11 o12 o13 o14 oi : Oper} {r : List Oper} {fuel : Nat} {listed : Array Bool} {a : Act} {w : World} {rs : List Nat}
    (h : ∀ K' : Act -> World -> Prop, Shut (∀ a w, S w -> (S w -> wpAnyH P md (o0 :: o1 :: o2 :: o3 :: o4 :: o5 :: o6 :: o7 :: o8 :: o9 :: o10 :: o11 :: o12 :: o13 :: o14 :: oi :: r).toArray Q S fuel (listed.setIfInBounds 15 true) a w) -> K' a w) -> if Region.wanted oi (yielded (o0 :: o1 :: o2 :: o3 :: o4 :: o5 :: o6 :: o7 :: o8 :: o9 :: o10 :: o11 :: o12 :: o13 :: o14 :: oi :: r).toArray a.tmps) = true then Oper.wp P oi a w K' Q else K' (a.put oi.dst undef) w)
    (hs : AllReadyH P md (o0 :: o1 :: o2 :: o3 :: o4 :: o5 :: o6 :: o7 :: o8 :: o9 :: o10 :: o11 :: o12 :: o13 :: o14 :: oi :: r).toArray Q S fuel listed a w rs) : AllReadyH P md (o0 :: o1 :: o2 :: o3 :: o4 :: o5 :: o6 :: o7 :: o8 :: o9 :: o10 :: o11 :: o12 :: o13 :: o14 :: oi :: r).toArray Q S fuel listed a w (15 :: rs) := AllReadyH.cons (i := 15) rfl h hs
end
end Hd
end
section
open Go.RowKit
namespace Em
theorem term_var (h : Nd) (ps : To) (hk : h.k = 1) : TmN h ps := by
 intro W R X most pb mk o1 l1 c1 o2 l2 c2 eo en ec e E hs1 hs2 hR hm hmost hb hec hz hE hok hokl hfr hN hmany
 obtain ⟨W0, hW0⟩ : ∃ W0, W0 = (W.alloc (.cells (cells9 h o1 l1 c1 o2 l2 c2) 29)).alloc (.cells #[.int .i64 0, .int .i64 0, .slice none 0 0] 24) := ⟨_, rfl⟩
 have hq0 : Quiet0 W W0 := by rw [hW0]; exact (Quiet0.alloc _ _).trans (Quiet0.alloc _ _)
 have hz0 : W0.heap.size = W.heap.size + 2 := by rw [hW0]; simp
 have h4 : Bx pb W0 W.heap.size (cells9 h o1 l1 c1 o2 l2 c2) 29 := Bx.new hm hq0 (Nat.le_refl _) (by rw [hW0]; exact blk_after (Quiet0.alloc _ _) (heap_alloc_new W _))
 have h6 : Bx pb W0 (W.heap.size + 1) #[.int .i64 0, .int .i64 0, .slice none 0 0] 24 := Bx.new hm hq0 (by omega) (by
  rw [hW0]
  have := heap_alloc_new (W.alloc (.cells (cells9 h o1 l1 c1 o2 l2 c2) 29)) (.cells #[.int .i64 0, .int .i64 0, .slice none 0 0] 24)
  simpa using this)
 have hm0 := hm.more hq0 (fun i => i = W.heap.size + 1) (fun i hi => by subst hi; omega)
 have hp := hm.lt
 have hl0 := Later.of_quiet hq0 hp
 have hnx := (termM_nm most h ps E hE.ne mk).1
 have hnb : mk.next <= 500000000 := Nat.le_trans hnx hN
 have HTK := hid (take_any hm0 (by omega))
 have HL0 := hid hl0
 have H4 := hid h4
 have H6 := hid h6
 have HP := hid hp
 have HBF := hid hb
 have HE := hid hE
 have HFR := hid hfr
 have HNB : Hid ((termM most h ps E mk).2.next <= NBd) := hN
 have HMO := hid hmost
 have HK := hid hk
 have HGO := hid (term_go most h ps E mk hmany)
 have HM0P := hid hm0.lt
 have t2 : (h.k == 2) = false := by rw [hk]; rfl
 have t3 : (h.k == 3) = false := by rw [hk]; rfl
 have t1 : (h.k == 1) = true := by rw [hk]; rfl
 obtain ⟨X1, hX1⟩ : ∃ X1, X1 = (fun i => X i ∨ i = W.heap.size + 1) := ⟨_, rfl⟩
 have HX1 : Hid (∀ i, X1 i = (X i ∨ i = W.heap.size + 1)) := fun i => by rw [hX1]
 rw [<- hX1] at HTK
 clear hs1 hs2 hR hm hb hE hok hokl hfr hN hm0 hl0 hq0 h4 h6 hX1 hnx hk hp hz0 hmost
 obtain ⟨v, hv⟩ := lookF_some e h.nm (mem_of_free HK.out HFR.out)
 have HLV := hid hv
 obtain ⟨F, lb, hvF, heg, hrun⟩ := HE.out.look hv
 subst hvF
 have HRUN := hid hrun
 obtain ⟨res, hres⟩ : ∃ res, lookE E h.nm { mk with next := mk.next + 1 } = res := ⟨_, rfl⟩
 obtain ⟨fin, hfin⟩ : ∃ fin, (eqP most (tv mk.next) res.1 h.fr h.en res.2).2 = fin := ⟨_, rfl⟩
 have HRES : Hid (termM most h ps E mk = (tv mk.next, fin)) := by show _ = _; rw [HGO.out, body_var HK.out, hres, hfin]
 have HRN : Hid (res.2.next <= NBd) := by
  show _ <= _
  have k := HNB.out
  rw [HRES.out, <- hfin] at k
  simpa only [eqP_nx] using k
 have HEQR := hid hres
 have HFIN := hid hfin
 clear hres hfin hv hrun
 unfold MkQ
 unfold tmv
 go_enter Tryz.func42, Tryz.ntmps42
 generalize hBB : W.heap.size = B at *
 go_upto_region 1 with fail
 rw [<- hW0]
 clear hW0
 go_wp2_with fail
 refine HTK.out.mono ?_; rintro x w1 ⟨n0, oo, cc, hn0, rfl, hm1, hl1⟩
 obtain rfl : mk.next = n0 := tv_inj hn0
 obtain ⟨W2, hW2⟩ : ∃ W2, W2 = w1.alloc (.cells #[.int .i64 1, .int .i64 mk.next, .slice oo 0 cc] 24) := ⟨_, rfl⟩
 have hq2 : Quiet0 w1 W2 := by rw [hW2]; exact Quiet0.alloc _ _
 have h7 : Bx pb W2 w1.heap.size #[.int .i64 1, .int .i64 mk.next, .slice oo 0 cc] 24 := Bx.new hm1 hq2 (Nat.le_refl _) (by rw [hW2]; exact heap_alloc_new w1 _)
 have H7 := hid h7
 have hm2 := hm1.stay hq2
 replace hm2 : MkE X1 most pb W2 { mk with next := mk.next + 1 } := hm2
 have hl2 := hl1.quiet hq2 HM0P.out
 have HM2 := hid hm2
 have HL2 := hid (HL0.out.trans hl2)
 have H42 := hid (H4.out.later hl2)
 have H62 := hid (H6.out.later hl2)
 have HP2 := hid hm2.lt
 clear hm1 hl1 hq2 h7 hm2 hl2 hn0 H4 H6 HL0 HTK
 unfold tyv
 go_upto_region 2 with fail
 change Code.wp _ _ _ _ (w1.alloc (.cells #[.int .i64 1, .int .i64 mk.next, .slice oo 0 cc] 24))
 rw [<- hW2]
 clear hW2
 generalize hC : w1.heap.size = C at *
 obtain ⟨ko, kc, kxs, hmka⟩ := HM2.out
 obtain ⟨_, _, _, q3⟩ := mk_cells hmka.box
 replace q3 : W2.cell? ⟨pb, 3, none⟩ = some (.bool false) := by rw [<- hmany]; exact q3
 obtain ⟨a0, a1, a2, a3, a4, a5, a6, a7, a8⟩ := cells9_block H42.out.1
 obtain ⟨b0, b1, b2, _, _, _⟩ := box_cells3 H7.out.1
 clear hmka
 have hpb := HP2.out
 have HSS : Hid (∀ W, Later pb W2 W -> (W.cell? ⟨B, 0, none⟩ = some (.int .i64 h.k) /\ W.cell? ⟨B, 1, none⟩ = some (.string h.nm) /\ W.cell? ⟨B, 2, none⟩ = some (.int .i64 h.n) /\ W.cell? ⟨B, 3, none⟩ = some (.int .i64 h.tk) /\ W.cell? ⟨B, 4, none⟩ = some (.int .i64 h.tn) /\ W.cell? ⟨B, 5, none⟩ = some (.slice o1 l1 c1) /\ W.cell? ⟨B, 6, none⟩ = some (.slice o2 l2 c2) /\ W.cell? ⟨B, 7, none⟩ = some (.int .i64 h.fr) /\ W.cell? ⟨B, 8, none⟩ = some (.int .i64 h.en)) /\ (W.cell? ⟨C, 0, none⟩ = some (.int .i64 1) /\ W.cell? ⟨C, 1, none⟩ = some (.int .i64 mk.next) /\ W.cell? ⟨C, 2, none⟩ = some (.slice oo 0 cc))) := fun W' hl => by
  obtain ⟨k0, k1, k2, _⟩ := box_cells3 (H7.out.later hl).1
  exact ⟨cells9_block (H42.out.later hl).1, k0, k1, k2⟩
 have HLK : Hid (∀ W, Later pb W2 W -> Calls Tryz.prog 67 #[.slice eo en ec, .string h.nm] W fun x w' => x = .returned (.func (.func F) #[] lb) /\ Quiet0 W w') := fun W' hl => (look_any _ e h.nm _ eo en ec W' (HBF.out.later (HL2.out.trans hl)) (by omega) HLV.out).mono (by rintro x w' ⟨rfl, rfl⟩; exact ⟨rfl, Quiet0.refl _⟩)
 have HMN : Hid (∀ W, Later pb W2 W -> MkE X1 most pb W { mk with next := mk.next + 1 } -> Calls Tryz.prog F (#[.pointer (some ⟨pb, 0, none⟩), .agg #[.int .i64 h.fr, .int .i64 h.en]] ++ lb) W (MkQ X1 most pb W res)) := fun W' hl hm => by
  have k := HRUN.out W' X1 { mk with next := mk.next + 1 } h.fr h.en (HL2.out.trans hl) hm (Nat.le_succ _) (by rw [HEQR.out]; exact HRN.out)
  rw [HEQR.out] at k
  exact k
 have HEQ : Hid (∀ (W : World) (n9 : Nat) (o9 : Option Addr) (c9 : Nat), res.1 = tv n9 -> MkE X1 most pb W res.2 -> Calls Tryz.prog 66 #[.pointer (some ⟨pb, 0, none⟩), .agg #[.int .i64 1, .int .i64 mk.next, .slice oo 0 cc], .agg #[.int .i64 1, .int .i64 n9, .slice o9 0 c9], .agg #[.int .i64 h.fr, .int .i64 h.en]] W (MkU X1 most pb W fin)) := fun W n9 o9 c9 hr hmw => by
  have k := equate_any (o1 := oo) (l1 := 0) (c1 := cc) (o2 := o9) (l2 := 0) (c2 := c9) hmw HMO.out (tv mk.next) (tv n9) h.fr h.en (SlcIn.nil _ _ _) (SlcIn.nil _ _ _) (Nat.le_of_ble_eq_true rfl) (Nat.le_of_ble_eq_true rfl)
  rw [<- hr, HFIN.out] at k
  rw [hr] at k
  exact k
 have hmk := HM2.out
 have hlc := Later.refl hpb
 go_upto_region 10 with fail
 go_region_held3 (fun W => (W.cell? ⟨B, 0, none⟩ = some (.int .i64 h.k) /\ W.cell? ⟨B, 1, none⟩ = some (.string h.nm) /\ W.cell? ⟨B, 2, none⟩ = some (.int .i64 h.n) /\ W.cell? ⟨B, 3, none⟩ = some (.int .i64 h.tk) /\ W.cell? ⟨B, 4, none⟩ = some (.int .i64 h.tn) /\ W.cell? ⟨B, 5, none⟩ = some (.slice o1 l1 c1) /\ W.cell? ⟨B, 6, none⟩ = some (.slice o2 l2 c2) /\ W.cell? ⟨B, 7, none⟩ = some (.int .i64 h.fr) /\ W.cell? ⟨B, 8, none⟩ = some (.int .i64 h.en)) /\ (W.cell? ⟨C, 0, none⟩ = some (.int .i64 1) /\ W.cell? ⟨C, 1, none⟩ = some (.int .i64 mk.next) /\ W.cell? ⟨C, 2, none⟩ = some (.slice oo 0 cc)))
  (((refine HSS.out _ ?_); (repeat with_reducible first | exact hlc | exact Later.refl hpb | refine jm hpb ?_ | refine jo hpb ?_)))
  (first
   | (go_at_call 67; (with_reducible refine Calls.mono (HLK.out _ ?hq) ?_); (case hq => (repeat with_reducible first | exact hlc | exact Later.refl hpb | refine jm hpb ?_ | refine jo hpb ?_)); rintro e wx ⟨rfl, hqx⟩; (refine with_ml (pb := pb) (X := X1) (most := most) (k := { mk with next := mk.next + 1 }) (w0 := W2) ?hl2 ?hm2 hqx ?_); (case hl2 => (repeat with_reducible first | exact hlc | exact Later.refl hpb | refine jm hpb ?_ | refine jo hpb ?_)); (case hm2 => (repeat with_reducible first | exact hmk | refine ja ?_ | refine jb ?_)); intro hlc hmk)
   | ((with_reducible refine Calls.mono (HMN.out _ ?hq ?hm) ?_); (case hq => (repeat with_reducible first | exact hlc | exact Later.refl hpb | refine jm hpb ?_ | refine jo hpb ?_)); (case hm => (repeat with_reducible first | exact hmk | refine ja ?_ | refine jb ?_)); rintro e wx ⟨n9, o9, c9, hr9, rfl, hmk, hlx⟩; unfold tyv; (refine with_lt (pb := pb) (w0 := W2) ?hl2 hlx ?_); (case hl2 => (repeat with_reducible first | exact hlc | exact Later.refl hpb | refine jm hpb ?_ | refine jo hpb ?_)); intro hlc)
   | ((go_at_call 66; (with_reducible refine Calls.mono (HEQ.out _ n9 _ _ hr9 ?hm) ?_)); (case hm => (repeat with_reducible first | exact hmk | refine ja ?_ | refine jb ?_)); rintro e wx ⟨rfl, hmk, hlx⟩; (refine with_lt (pb := pb) (w0 := W2) ?hl2 hlx ?_); (case hl2 => (repeat with_reducible first | exact hlc | exact Later.refl hpb | refine jm hpb ?_ | refine jo hpb ?_)); intro hlc)
   | fail)
 all_goals
  have HM9 := hid hmk
  have HL9 := hid hlc
  clear hmk hlc
  obtain ⟨g0, g1, g2, _, _, _⟩ := box_cells3 (H7.out.later HL9.out).1
  have hb6 := (H62.out.later HL9.out).1
  have HB6 := hid hb6
  obtain ⟨d0, d1, d2, y0, y1, y2⟩ := box_cells3 hb6
  clear hb6
  go_wp2_with fail
  clear d0 d1 d2 y0 y1 y2
  have hf := put3_fr wx (B + 1) (.int .i64 1) (.int .i64 mk.next) (.slice oo 0 cc)
  obtain ⟨f0, f1, f2⟩ := put3_cells (a := .int .i64 1) (b := .int .i64 mk.next) (c := .slice oo 0 cc) HB6.out
  change bodyPost _ _ _ _ _ (put3 wx (B + 1) (.int .i64 1) (.int .i64 mk.next) (.slice oo 0 cc))
  generalize put3 wx (B + 1) (.int .i64 1) (.int .i64 mk.next) (.slice oo 0 cc) = wf at *
  refine bodyPost_ret (by simp [results, Tryz.results42, go_sem, f0, f1, f2]; rfl) rfl ?_
  have hp : pb < W.heap.size := by rw [hBB]; exact HP.out
  refine ⟨mk.next, oo, cc, by rw [HRES.out], rfl, ?_, (HL2.out.trans HL9.out).put hf hp (fun i hi => by omega)⟩
  rw [HRES.out]
  exact (HM9.out.put (hf.mono (fun i _ e => by rw [HX1.out]; exact Or.inr (by omega)))).less (fun i hi => by rw [HX1.out]; exact Or.inl hi)
end Em
end
section
open Go.RowKit
namespace Em
theorem term_lam (h : Nd) (ps : To) (ih : ∀ i g qs, ps.get i = some (g, qs) -> TmT g qs) (hk : h.k = 4) : TmN h ps := by
 intro W R X most pb mk o1 l1 c1 o2 l2 c2 eo en ec e E hs1 hs2 hR hm hmost hb hec hz hE hok hokl hfr hN hmany
 obtain ⟨W0, hW0⟩ : ∃ W0, W0 = (W.alloc (.cells (cells9 h o1 l1 c1 o2 l2 c2) 29)).alloc (.cells #[.int .i64 0, .int .i64 0, .slice none 0 0] 24) := ⟨_, rfl⟩
 have hq0 : Quiet0 W W0 := by rw [hW0]; exact (Quiet0.alloc _ _).trans (Quiet0.alloc _ _)
 have hz0 : W0.heap.size = W.heap.size + 2 := by rw [hW0]; simp
 have h4 : Bx pb W0 W.heap.size (cells9 h o1 l1 c1 o2 l2 c2) 29 := Bx.new hm hq0 (Nat.le_refl _) (by rw [hW0]; exact blk_after (Quiet0.alloc _ _) (heap_alloc_new W _))
 have h6 : Bx pb W0 (W.heap.size + 1) #[.int .i64 0, .int .i64 0, .slice none 0 0] 24 := Bx.new hm hq0 (by omega) (by
  rw [hW0]
  have := heap_alloc_new (W.alloc (.cells (cells9 h o1 l1 c1 o2 l2 c2) 29)) (.cells #[.int .i64 0, .int .i64 0, .slice none 0 0] 24)
  simpa using this)
 have hm0 := hm.more hq0 (fun i => i = W.heap.size + 1) (fun i hi => by subst hi; omega)
 have hp := hm.lt
 have hl0 := Later.of_quiet hq0 hp
 have hnx := (termM_nm most h ps E hE.ne mk).1
 have hnb : mk.next <= 500000000 := Nat.le_trans hnx hN
 have HTK := hid (take_any hm0 (by omega))
 have HM := hid hm
 have HL0 := hid hl0
 have H4 := hid h4
 have H6 := hid h6
 have HP := hid hp
 have HS2 := hid hs2
 have HR := hid hR
 have HBF := hid hb
 have HE := hid hE
 have HOK := hid hok
 have HOKL := hid hokl
 have HFR := hid hfr
 have HNB : Hid ((termM most h ps E mk).2.next <= NBd) := hN
 have HMO := hid hmost
 have HK := hid hk
 have HGO := hid (term_go most h ps E mk hmany)
 have HM0P := hid hm0.lt
 have t2 : (h.k == 2) = false := by rw [hk]; rfl
 have t3 : (h.k == 3) = false := by rw [hk]; rfl
 have t1 : (h.k == 1) = false := by rw [hk]; rfl
 have t4 : (h.k == 4) = true := by rw [hk]; rfl
 obtain ⟨X1, hX1⟩ : ∃ X1, X1 = (fun i => X i ∨ i = W.heap.size + 1) := ⟨_, rfl⟩
 have HX1 : Hid (∀ i, X1 i = (X i ∨ i = W.heap.size + 1)) := fun i => by rw [hX1]
 rw [<- hX1] at HTK
 clear hs1 hs2 hR hm hb hE hok hokl hfr hN hm0 hl0 hq0 h4 h6 hX1 hnx hk hp hz0 hmost
 have IH := hid ih
 clear ih
 have hl1 : 1 <= l2 := by rw [HS2.out.1]; exact HOK.out.2.1 HK.out
 have hi0 : (0 : Int) < l2 := by omega
 have hj0 : 0 < l2 := by omega
 obtain ⟨b9, off9, u, qu, p1u, m1u, d1u, p2u, m2u, d2u, e9, _, gu, ru, cu, su, tu⟩ := HS2.out.nth (i := 0) (by omega)
 subst e9
 have hb9 := HR.out b9 ru
 have HGU := hid gu
 have HSU := hid su
 have HTU := hid tu
 have HZU := hid (To.size_get ps 0 u qu gu)
 have HOU := hid (okTL_get ps 0 u qu HOKL.out gu)
 have HFU : Hid (Sc.free1 (h.nm :: names e) u qu = []) := by
  show _ = _
  have k := free_of HFR.out (by rw [HK.out]; decide) gu
  rwa [envOf_more _ _ (by rw [HK.out]; rfl)] at k
 obtain ⟨res, hres⟩ : ∃ res, termM most u qu ((h.nm, pu (tv (mk.next + 1))) :: E) { mk with next := mk.next + 1 + 1 } = res := ⟨_, rfl⟩
 obtain ⟨fin, hfin⟩ : ∃ fin, (eqP most (tv mk.next) (arrT (tv (mk.next + 1)) res.1) h.fr h.en res.2).2 = fin := ⟨_, rfl⟩
 have HRES : Hid (termM most h ps E mk = (tv mk.next, fin)) := by show _ = _; rw [HGO.out, body_lam HK.out, vat_get HGU.out, <- hfin, <- hres]
 have HRN : Hid (res.2.next <= NBd) := by
  show _ <= _
  have k := HNB.out
  rw [HRES.out, <- hfin] at k
  simpa only [eqP_nx] using k
 have HNX : Hid (mk.next + 1 + 1 <= NBd) := by
  show _ <= _
  have k := (termM_nm most u qu ((h.nm, pu (tv (mk.next + 1))) :: E) (HE.out.ne.cons (NM.pure _)) { mk with next := mk.next + 1 + 1 }).1
  rw [hres] at k
  exact Nat.le_trans k HRN.out
 have HEQR := hid hres
 have HFIN := hid hfin
 clear hres hfin gu su tu
 unfold MkQ
 unfold tmv
 go_enter Tryz.func42, Tryz.ntmps42
 generalize hBB : W.heap.size = B at *
 go_upto_region 1 with fail
 rw [<- hW0]
 clear hW0
 go_wp2_with fail
 refine HTK.out.mono ?_; rintro x w1 ⟨n0, oo, cc, hn0, rfl, hm1, hl1⟩
 obtain rfl : mk.next = n0 := tv_inj hn0
 obtain ⟨W2, hW2⟩ : ∃ W2, W2 = w1.alloc (.cells #[.int .i64 1, .int .i64 mk.next, .slice oo 0 cc] 24) := ⟨_, rfl⟩
 have hq2 : Quiet0 w1 W2 := by rw [hW2]; exact Quiet0.alloc _ _
 have h7 : Bx pb W2 w1.heap.size #[.int .i64 1, .int .i64 mk.next, .slice oo 0 cc] 24 := Bx.new hm1 hq2 (Nat.le_refl _) (by rw [hW2]; exact heap_alloc_new w1 _)
 have H7 := hid h7
 have hm2 := hm1.stay hq2
 replace hm2 : MkE X1 most pb W2 { mk with next := mk.next + 1 } := hm2
 have hl2 := hl1.quiet hq2 HM0P.out
 have HM2 := hid hm2
 have HL2 := hid (HL0.out.trans hl2)
 have H42 := hid (H4.out.later hl2)
 have H62 := hid (H6.out.later hl2)
 have HP2 := hid hm2.lt
 clear hm1 hl1 hq2 h7 hm2 hl2 hn0 H4 H6 HL0 HTK
 unfold tyv
 go_upto_region 2 with fail
 change Code.wp _ _ _ _ (w1.alloc (.cells #[.int .i64 1, .int .i64 mk.next, .slice oo 0 cc] 24))
 rw [<- hW2]
 clear hW2
 generalize hC : w1.heap.size = C at *
 obtain ⟨ko, kc, kxs, hmka⟩ := HM2.out
 obtain ⟨_, _, _, q3⟩ := mk_cells hmka.box
 replace q3 : W2.cell? ⟨pb, 3, none⟩ = some (.bool false) := by rw [<- hmany]; exact q3
 obtain ⟨a0, a1, a2, a3, a4, a5, a6, a7, a8⟩ := cells9_block H42.out.1
 obtain ⟨b0, b1, b2, _, _, _⟩ := box_cells3 H7.out.1
 clear hmka
 generalize hnb1 : mk.next + 1 = nb at *
 have HTK2 := hid (take_any HM2.out (by show nb <= 1000000000; have : nb + 1 <= 500000000 := HNX.out; omega))
 go_wp2_with fail
 refine HTK2.out.mono ?_; rintro x w3 ⟨n1, o3, c3, hn1, rfl, hm3, hl3⟩
 obtain rfl : nb = n1 := tv_inj hn1
 replace hm3 : MkE X1 most pb w3 { mk with next := nb + 1 } := hm3
 obtain ⟨W4, hW4⟩ : ∃ W4, W4 = w3.alloc (.cells #[.int .i64 1, .int .i64 nb, .slice o3 0 c3] 24) := ⟨_, rfl⟩
 have hq4 : Quiet0 w3 W4 := by rw [hW4]; exact Quiet0.alloc _ _
 have h8 : Bx pb W4 w3.heap.size #[.int .i64 1, .int .i64 nb, .slice o3 0 c3] 24 := Bx.new hm3 hq4 (Nat.le_refl _) (by rw [hW4]; exact heap_alloc_new w3 _)
 have H8 := hid h8
 have HM4 := hid (hm3.stay hq4)
 have HL4 := hid (hl3.quiet hq4 HP2.out)
 have hpb := HM4.out.lt
 clear hm3 hl3 h8 hq4 HTK2 hn1 a0 a1 a2 a3 a4 a5 a6 a7 a8 b0 b1 b2 q3
 unfold tyv
 go_upto_region 13 with fail
 change Code.wp _ _ _ _ (w3.alloc (.cells #[.int .i64 1, .int .i64 nb, .slice o3 0 c3] 24))
 rw [<- hW4]
 clear hW4
 generalize hD : w3.heap.size = D at *
 have HSS : Hid (∀ W, Later pb W4 W -> (W.cell? ⟨B, 0, none⟩ = some (.int .i64 h.k) /\ W.cell? ⟨B, 1, none⟩ = some (.string h.nm) /\ W.cell? ⟨B, 2, none⟩ = some (.int .i64 h.n) /\ W.cell? ⟨B, 3, none⟩ = some (.int .i64 h.tk) /\ W.cell? ⟨B, 4, none⟩ = some (.int .i64 h.tn) /\ W.cell? ⟨B, 5, none⟩ = some (.slice o1 l1 c1) /\ W.cell? ⟨B, 6, none⟩ = some (.slice (some ⟨b9, off9, none⟩) l2 c2) /\ W.cell? ⟨B, 7, none⟩ = some (.int .i64 h.fr) /\ W.cell? ⟨B, 8, none⟩ = some (.int .i64 h.en)) /\ (W.cell? ⟨C, 0, none⟩ = some (.int .i64 1) /\ W.cell? ⟨C, 1, none⟩ = some (.int .i64 mk.next) /\ W.cell? ⟨C, 2, none⟩ = some (.slice oo 0 cc)) /\ (W.cell? ⟨D, 0, none⟩ = some (.int .i64 1) /\ W.cell? ⟨D, 1, none⟩ = some (.int .i64 nb) /\ W.cell? ⟨D, 2, none⟩ = some (.slice o3 0 c3)) /\ (W.cell? ⟨b9, off9, none⟩ = some (.int .i64 u.k) /\ W.cell? ⟨b9, off9 + 1, none⟩ = some (.string u.nm) /\ W.cell? ⟨b9, off9 + 2, none⟩ = some (.int .i64 u.n) /\ W.cell? ⟨b9, off9 + 3, none⟩ = some (.int .i64 u.tk) /\ W.cell? ⟨b9, off9 + 4, none⟩ = some (.int .i64 u.tn) /\ W.cell? ⟨b9, off9 + 5, none⟩ = some (.slice p1u m1u d1u) /\ W.cell? ⟨b9, off9 + 6, none⟩ = some (.slice p2u m2u d2u) /\ W.cell? ⟨b9, off9 + 7, none⟩ = some (.int .i64 u.fr) /\ W.cell? ⟨b9, off9 + 8, none⟩ = some (.int .i64 u.en))) := fun W' hl => by
  have hl' := HL4.out.trans hl
  obtain ⟨k0, k1, k2, _⟩ := box_cells3 (H7.out.later hl').1
  obtain ⟨k3, k4, k5, _⟩ := box_cells3 (H8.out.later hl).1
  exact ⟨cells9_block (H42.out.later hl').1, ⟨k0, k1, k2⟩, ⟨k3, k4, k5⟩, cells_later cu hb9 HM.out (HL2.out.trans hl')⟩
 have HSG : Hid (∀ W, Later pb W4 W -> MkE X1 most pb W { mk with next := nb + 1 } -> Calls Tryz.prog 69 #[.agg #[.int .i64 1, .int .i64 nb, .slice o3 0 c3]] W (SgQ most pb (nb + 1) W (pu (tv nb)))) := fun W hl hm => single_any hm
 have HWT : Hid (∀ W bs ls, Later pb W4 W -> MkE X1 most pb W { mk with next := nb + 1 } -> MeanT most pb (nb + 1) W (.func bs #[] ls) (pu (tv nb)) -> Calls Tryz.prog 68 #[.slice eo en ec, .string h.nm, .func bs #[] ls] W (WtQ most pb (nb + 1) W (en + 1) ((h.nm, .func bs #[] ls) :: e) ((h.nm, pu (tv nb)) :: E))) := fun W bs ls hl hm hf => by
  have hl' := HL2.out.trans (HL4.out.trans hl)
  exact with2_any h.nm hm (HBF.out.later hl') (HE.out.later hl' (by omega)) hec (by omega) hf (NM.pure _)
 have HTM : Hid (∀ W o c bs ls, Later pb W4 W -> MkE X1 most pb W { mk with next := nb + 1 } -> en + 1 <= c -> PkE most pb (nb + 1) W o (en + 1) ((h.nm, .func bs #[] ls) :: e) ((h.nm, pu (tv nb)) :: E) -> Calls Tryz.prog 42 #[.pointer (some ⟨pb, 0, none⟩), tmv u p1u m1u d1u p2u m2u d2u, .slice o (en + 1) c] W (MkQ X1 most pb W res)) := fun W o c bs ls hl hm hc hpk => by
  have hl' := HL2.out.trans (HL4.out.trans hl)
  have k := IH.out 0 u qu HGU.out W R X1 most pb { mk with next := nb + 1 } p1u m1u d1u p2u m2u d2u o (en + 1) c _ _ (slcin_later HSU.out HR.out HM.out hl') (tslc_later HTU.out HR.out HM.out hl') HR.out hm HMO.out hpk.1 hc (by have := HZU.out; omega) hpk.2 HOU.out.1 HOU.out.2 HFU.out (by rw [HEQR.out]; exact HRN.out)
  rw [HEQR.out] at k
  exact k
 have HAR : Hid (∀ (W : World) (g n9 : Nat) (o9 : Option Addr) (c9 : Nat), W.heap[g]? = some (.cells #[.int .i64 1, .int .i64 nb, .slice o3 0 c3, .int .i64 1, .int .i64 n9, .slice o9 0 c9] 24 (0, 0)) -> Calls Tryz.prog 40 #[.slice (some ⟨g, 0, none⟩) 2 2] W (ArQ W nb n9)) := fun W g n9 o9 c9 hg => arr2_any hg
 have HEQ : Hid (∀ (W : World) (n9 : Nat) (o4 : Option Addr) (c4 : Nat), res.1 = tv n9 -> MkE X1 most pb W res.2 -> SlcIn (TF X1 pb W) W o4 2 (arrT (tv nb) (tv n9)).2.2 -> Calls Tryz.prog 66 #[.pointer (some ⟨pb, 0, none⟩), .agg #[.int .i64 1, .int .i64 mk.next, .slice oo 0 cc], .agg #[.int .i64 4, .int .i64 0, .slice o4 2 c4], .agg #[.int .i64 h.fr, .int .i64 h.en]] W (MkU X1 most pb W fin)) := fun W n9 o4 c4 hr hmw hs => by
  have k := equate_any (o1 := oo) (l1 := 0) (c1 := cc) (c2 := c4) hmw HMO.out (tv mk.next) (arrT (tv nb) (tv n9)) h.fr h.en (SlcIn.nil _ _ _) hs (Nat.le_of_ble_eq_true rfl) (Nat.le_of_ble_eq_true rfl)
  rw [<- hr, HFIN.out] at k
  exact k
 have hmk := HM4.out
 have hlc := Later.refl hpb
 obtain ⟨⟨a0, a1, a2, a3, a4, a5, a6, a7, a8⟩, ⟨b0, b1, b2⟩, ⟨f0, f1, f2⟩, ⟨v0, v1, v2, v3, v4, v5, v6, v7, v8⟩⟩ := HSS.out W4 (Later.refl hpb)
 unfold tmv at HTM
 clear cu hb9 ru
 go_region_held3 (fun W => (W.cell? ⟨B, 0, none⟩ = some (.int .i64 h.k) /\ W.cell? ⟨B, 1, none⟩ = some (.string h.nm) /\ W.cell? ⟨B, 2, none⟩ = some (.int .i64 h.n) /\ W.cell? ⟨B, 3, none⟩ = some (.int .i64 h.tk) /\ W.cell? ⟨B, 4, none⟩ = some (.int .i64 h.tn) /\ W.cell? ⟨B, 5, none⟩ = some (.slice o1 l1 c1) /\ W.cell? ⟨B, 6, none⟩ = some (.slice (some ⟨b9, off9, none⟩) l2 c2) /\ W.cell? ⟨B, 7, none⟩ = some (.int .i64 h.fr) /\ W.cell? ⟨B, 8, none⟩ = some (.int .i64 h.en)) /\ (W.cell? ⟨C, 0, none⟩ = some (.int .i64 1) /\ W.cell? ⟨C, 1, none⟩ = some (.int .i64 mk.next) /\ W.cell? ⟨C, 2, none⟩ = some (.slice oo 0 cc)) /\ (W.cell? ⟨D, 0, none⟩ = some (.int .i64 1) /\ W.cell? ⟨D, 1, none⟩ = some (.int .i64 nb) /\ W.cell? ⟨D, 2, none⟩ = some (.slice o3 0 c3)) /\ (W.cell? ⟨b9, off9, none⟩ = some (.int .i64 u.k) /\ W.cell? ⟨b9, off9 + 1, none⟩ = some (.string u.nm) /\ W.cell? ⟨b9, off9 + 2, none⟩ = some (.int .i64 u.n) /\ W.cell? ⟨b9, off9 + 3, none⟩ = some (.int .i64 u.tk) /\ W.cell? ⟨b9, off9 + 4, none⟩ = some (.int .i64 u.tn) /\ W.cell? ⟨b9, off9 + 5, none⟩ = some (.slice p1u m1u d1u) /\ W.cell? ⟨b9, off9 + 6, none⟩ = some (.slice p2u m2u d2u) /\ W.cell? ⟨b9, off9 + 7, none⟩ = some (.int .i64 u.fr) /\ W.cell? ⟨b9, off9 + 8, none⟩ = some (.int .i64 u.en)))
  (((refine HSS.out _ ?_); (repeat with_reducible first | exact hlc | exact Later.refl hpb | refine jm hpb ?_ | refine jo hpb ?_)))
  (first
   | (go_at_call 69; (with_reducible refine Calls.mono (HSG.out _ ?hq ?hm) ?_); (case hq => (repeat with_reducible first | exact hlc | exact Later.refl hpb | refine jm hpb ?_ | refine jo hpb ?_)); (case hm => (repeat with_reducible first | exact hmk | refine ja ?_ | refine jb ?_)); rintro e wx ⟨bs, ls, rfl, hme, hqx⟩; (refine with_ml (pb := pb) (X := X1) (most := most) (k := { mk with next := nb + 1 }) (w0 := W4) ?hl2 ?hm2 hqx ?_); (case hl2 => (repeat with_reducible first | exact hlc | exact Later.refl hpb | refine jm hpb ?_ | refine jo hpb ?_)); (case hm2 => (repeat with_reducible first | exact hmk | refine ja ?_ | refine jb ?_)); intro hlc hmk)
   | (go_at_call 68; (with_reducible refine Calls.mono (HWT.out _ bs ls ?hq ?hm ?hmz) ?_); (case hq => (repeat with_reducible first | exact hlc | exact Later.refl hpb | refine jm hpb ?_ | refine jo hpb ?_)); (case hm => (repeat with_reducible first | exact hmk | refine ja ?_ | refine jb ?_)); (case hmz => (repeat (first | with_reducible exact hme | ((with_reducible refine MeanT.st (X := X1) (k := { mk with next := nb + 1 }) ?hmT (Quiet0.alloc _ _) ?_); (case hmT => (repeat with_reducible first | exact hmk | refine ja ?_ | refine jb ?_))) | ((with_reducible refine MeanT.st (X := X1) (k := { mk with next := nb + 1 }) ?hmT (Quiet0.drew _) ?_); (case hmT => (repeat with_reducible first | exact hmk | refine ja ?_ | refine jb ?_))) | fail))); rintro e wx ⟨wo, wc, rfl, hwc, hpk, hqx⟩; (refine with_ml (pb := pb) (X := X1) (most := most) (k := { mk with next := nb + 1 }) (w0 := W4) ?hl2 ?hm2 hqx ?_); (case hl2 => (repeat with_reducible first | exact hlc | exact Later.refl hpb | refine jm hpb ?_ | refine jo hpb ?_)); (case hm2 => (repeat with_reducible first | exact hmk | refine ja ?_ | refine jb ?_)); intro hlc hmk)
   | ((go_at_call 42; (with_reducible refine Calls.mono (HTM.out _ _ _ bs ls ?hq ?hm hwc ?hpz) ?_)); (case hq => (repeat with_reducible first | exact hlc | exact Later.refl hpb | refine jm hpb ?_ | refine jo hpb ?_)); (case hm => (repeat with_reducible first | exact hmk | refine ja ?_ | refine jb ?_)); (case hpz => (repeat (first | with_reducible exact hpk | ((with_reducible refine PkE.st (X := X1) (k := { mk with next := nb + 1 }) ?hmP (Quiet0.alloc _ _) ?_); (case hmP => (repeat with_reducible first | exact hmk | refine ja ?_ | refine jb ?_))) | ((with_reducible refine PkE.st (X := X1) (k := { mk with next := nb + 1 }) ?hmP (Quiet0.drew _) ?_); (case hmP => (repeat with_reducible first | exact hmk | refine ja ?_ | refine jb ?_))) | fail))); rintro e wx ⟨n9, o9, c9, hr9, rfl, hmk, hlx⟩; unfold tyv; (refine with_lt (pb := pb) (w0 := W4) ?hl2 hlx ?_); (case hl2 => (repeat with_reducible first | exact hlc | exact Later.refl hpb | refine jm hpb ?_ | refine jo hpb ?_)); intro hlc)
   | (go_at_call 40; (with_reducible refine Calls.mono (HAR.out _ _ n9 o9 c9 ?hblk) ?_); (case hblk => (repeat (first | ((with_reducible refine blk_new _ _ _ _ ?hbe); (case hbe => (simp; done))) | with_reducible refine blk_after (Quiet0.alloc _ _) ?_ | with_reducible refine blk_drew ?_ | fail))); rintro e wx ⟨o4, c4, rfl, hs4, hqx⟩; (refine with_new (pb := pb) (X := X1) (most := most) (k := res.2) ?hm5 hqx hs4 ?_; (case hm5 => (repeat with_reducible first | exact hmk | refine ja ?_ | refine jb ?_)); intro hs4); (refine with_ml (pb := pb) (X := X1) (most := most) (k := res.2) (w0 := W4) ?hl2 ?hm2 hqx ?_); (case hl2 => (repeat with_reducible first | exact hlc | exact Later.refl hpb | refine jm hpb ?_ | refine jo hpb ?_)); (case hm2 => (repeat with_reducible first | exact hmk | refine ja ?_ | refine jb ?_)); intro hlc hmk)
   | ((go_at_call 66; (with_reducible refine Calls.mono (HEQ.out _ n9 _ _ hr9 ?hm ?hs1) ?_)); (case hm => (repeat with_reducible first | exact hmk | refine ja ?_ | refine jb ?_)); (case hs1 => (repeat (first | with_reducible exact hs4 | ((with_reducible refine slc_st (pb := pb) (X := X1) (most := most) (k := res.2) ?hmS (Quiet0.alloc _ _) ?_); (case hmS => (repeat with_reducible first | exact hmk | refine ja ?_ | refine jb ?_))) | ((with_reducible refine slc_st (pb := pb) (X := X1) (most := most) (k := res.2) ?hmS (Quiet0.drew _) ?_); (case hmS => (repeat with_reducible first | exact hmk | refine ja ?_ | refine jb ?_))) | fail))); rintro e wx ⟨rfl, hmk, hlx⟩; (refine with_lt (pb := pb) (w0 := W4) ?hl2 hlx ?_); (case hl2 => (repeat with_reducible first | exact hlc | exact Later.refl hpb | refine jm hpb ?_ | refine jo hpb ?_)); intro hlc)
   | fail)
 all_goals
  have HM9 := hid hmk
  have HL9 := hid (HL4.out.trans hlc)
  clear hmk hlc
  obtain ⟨g0, g1, g2, _, _, _⟩ := box_cells3 (H7.out.later HL9.out).1
  have hb6 := (H62.out.later HL9.out).1
  have HB6 := hid hb6
  obtain ⟨d0, d1, d2, y0, y1, y2⟩ := box_cells3 hb6
  clear hb6
  go_wp2_with fail
  clear d0 d1 d2 y0 y1 y2
  have hf := put3_fr wx (B + 1) (.int .i64 1) (.int .i64 mk.next) (.slice oo 0 cc)
  obtain ⟨f0, f1, f2⟩ := put3_cells (a := .int .i64 1) (b := .int .i64 mk.next) (c := .slice oo 0 cc) HB6.out
  change bodyPost _ _ _ _ _ (put3 wx (B + 1) (.int .i64 1) (.int .i64 mk.next) (.slice oo 0 cc))
  generalize put3 wx (B + 1) (.int .i64 1) (.int .i64 mk.next) (.slice oo 0 cc) = wf at *
  refine bodyPost_ret (by simp [results, Tryz.results42, go_sem, f0, f1, f2]; rfl) rfl ?_
  have hp : pb < W.heap.size := by rw [hBB]; exact HP.out
  refine ⟨mk.next, oo, cc, by rw [HRES.out], rfl, ?_, (HL2.out.trans HL9.out).put hf hp (fun i hi => by omega)⟩
  rw [HRES.out]
  exact (HM9.out.put (hf.mono (fun i _ e => by rw [HX1.out]; exact Or.inr (by omega)))).less (fun i hi => by rw [HX1.out]; exact Or.inl hi)
end Em
end
section
open Go.RowKit
namespace Em
theorem term_app (h : Nd) (ps : To) (ih : ∀ i g qs, ps.get i = some (g, qs) -> TmT g qs) (hk : h.k = 5) : TmN h ps := by
 intro W R X most pb mk o1 l1 c1 o2 l2 c2 eo en ec e E hs1 hs2 hR hm hmost hb hec hz hE hok hokl hfr hN hmany
 obtain ⟨W0, hW0⟩ : ∃ W0, W0 = (W.alloc (.cells (cells9 h o1 l1 c1 o2 l2 c2) 29)).alloc (.cells #[.int .i64 0, .int .i64 0, .slice none 0 0] 24) := ⟨_, rfl⟩
 have hq0 : Quiet0 W W0 := by rw [hW0]; exact (Quiet0.alloc _ _).trans (Quiet0.alloc _ _)
 have hz0 : W0.heap.size = W.heap.size + 2 := by rw [hW0]; simp
 have h4 : Bx pb W0 W.heap.size (cells9 h o1 l1 c1 o2 l2 c2) 29 := Bx.new hm hq0 (Nat.le_refl _) (by rw [hW0]; exact blk_after (Quiet0.alloc _ _) (heap_alloc_new W _))
 have h6 : Bx pb W0 (W.heap.size + 1) #[.int .i64 0, .int .i64 0, .slice none 0 0] 24 := Bx.new hm hq0 (by omega) (by
  rw [hW0]
  have := heap_alloc_new (W.alloc (.cells (cells9 h o1 l1 c1 o2 l2 c2) 29)) (.cells #[.int .i64 0, .int .i64 0, .slice none 0 0] 24)
  simpa using this)
 have hm0 := hm.more hq0 (fun i => i = W.heap.size + 1) (fun i hi => by subst hi; omega)
 have hp := hm.lt
 have hl0 := Later.of_quiet hq0 hp
 have hnx := (termM_nm most h ps E hE.ne mk).1
 have hnb : mk.next <= 500000000 := Nat.le_trans hnx hN
 have HTK := hid (take_any hm0 (by omega))
 have HM := hid hm
 have HL0 := hid hl0
 have H4 := hid h4
 have H6 := hid h6
 have HP := hid hp
 have HS2 := hid hs2
 have HR := hid hR
 have HBF := hid hb
 have HE := hid hE
 have HOK := hid hok
 have HOKL := hid hokl
 have HFR := hid hfr
 have HNB : Hid ((termM most h ps E mk).2.next <= NBd) := hN
 have HMO := hid hmost
 have HK := hid hk
 have HGO := hid (term_go most h ps E mk hmany)
 have HM0P := hid hm0.lt
 have t2 : (h.k == 2) = false := by rw [hk]; rfl
 have t3 : (h.k == 3) = false := by rw [hk]; rfl
 have t1 : (h.k == 1) = false := by rw [hk]; rfl
 have t4 : (h.k == 4) = false := by rw [hk]; rfl
 have t6 : (h.k == 6) = false := by rw [hk]; rfl
 have t7 : (h.k == 7) = false := by rw [hk]; rfl
 have t5 : (h.k == 5) = true := by rw [hk]; rfl
 obtain ⟨X1, hX1⟩ : ∃ X1, X1 = (fun i => X i ∨ i = W.heap.size + 1) := ⟨_, rfl⟩
 have HX1 : Hid (∀ i, X1 i = (X i ∨ i = W.heap.size + 1)) := fun i => by rw [hX1]
 rw [<- hX1] at HTK
 clear hs1 hs2 hR hm hb hE hok hokl hfr hN hm0 hl0 hq0 h4 h6 hX1 hnx hk hp hz0 hmost
 have HFP : Hid (∀ j g qs, ps.get j = some (g, qs) -> Sc.free1 (names e) g qs = []) := fun j g qs hg => by
  have k := free_of HFR.out (by rw [HK.out]; decide) hg
  rwa [envOf_same _ _ (by rw [HK.out]; exact not_binds (by decide) (by decide) (by decide) j)] at k
 have IH := hid ih
 clear ih
 obtain ⟨res, hres⟩ : ∃ res, mapE E (valsM most ps) { mk with next := mk.next + 1 } = res := ⟨_, rfl⟩
 obtain ⟨fin, hfin⟩ : ∃ fin, (eqP most (tat res.1 0) (arrT (tat res.1 1) (tv mk.next)) h.fr h.en res.2).2 = fin := ⟨_, rfl⟩
 have HRES : Hid (termM most h ps E mk = (tv mk.next, fin)) := by show _ = _; rw [HGO.out, body_app HK.out, hres, hfin]
 have HRL : Hid (res.1.length = l2) := by show _ = _; rw [<- hres, mapE_length, valsM_length, HS2.out.1]
 have HRN : Hid (res.2.next <= NBd) := by
  show _ <= _
  have k := HNB.out
  rw [HRES.out] at k
  rw [<- hfin] at k
  simpa only [eqP_nx] using k
 have HEQR := hid hres
 have HFIN := hid hfin
 have hl2 : 2 <= l2 := by rw [HS2.out.1]; exact HOK.out.2.2.1 HK.out
 have hi0 : (0 : Int) < l2 := by omega
 have hj0 : 0 < l2 := by omega
 have hj1 : 2 <= l2 -> 1 < l2 := by omega
 have hj2 : 3 <= l2 -> 2 < l2 := by omega
 have hi1 : 2 <= l2 -> (1 : Int) < l2 := by omega
 have hi2 : 3 <= l2 -> (2 : Int) < l2 := by omega
 have hlz : l2 <= 100000 := by have := To.length_le ps; have := HS2.out.1; omega
 clear hres hfin
 unfold MkQ
 unfold tmv
 go_enter Tryz.func42, Tryz.ntmps42
 generalize hBB : W.heap.size = B at *
 go_upto_region 1 with fail
 rw [<- hW0]
 clear hW0
 go_wp2_with fail
 refine HTK.out.mono ?_; rintro x w1 ⟨n0, oo, cc, hn0, rfl, hm1, hl1⟩
 obtain rfl : mk.next = n0 := tv_inj hn0
 obtain ⟨W2, hW2⟩ : ∃ W2, W2 = w1.alloc (.cells #[.int .i64 1, .int .i64 mk.next, .slice oo 0 cc] 24) := ⟨_, rfl⟩
 have hq2 : Quiet0 w1 W2 := by rw [hW2]; exact Quiet0.alloc _ _
 have h7 : Bx pb W2 w1.heap.size #[.int .i64 1, .int .i64 mk.next, .slice oo 0 cc] 24 := Bx.new hm1 hq2 (Nat.le_refl _) (by rw [hW2]; exact heap_alloc_new w1 _)
 have H7 := hid h7
 have hm2 := hm1.stay hq2
 replace hm2 : MkE X1 most pb W2 { mk with next := mk.next + 1 } := hm2
 have hl2 := hl1.quiet hq2 HM0P.out
 have HM2 := hid hm2
 have HL2 := hid (HL0.out.trans hl2)
 have H42 := hid (H4.out.later hl2)
 have H62 := hid (H6.out.later hl2)
 have HP2 := hid hm2.lt
 clear hm1 hl1 hq2 h7 hm2 hl2 hn0 H4 H6 HL0 HTK
 unfold tyv
 go_upto_region 2 with fail
 change Code.wp _ _ _ _ (w1.alloc (.cells #[.int .i64 1, .int .i64 mk.next, .slice oo 0 cc] 24))
 rw [<- hW2]
 clear hW2
 generalize hC : w1.heap.size = C at *
 obtain ⟨ko, kc, kxs, hmka⟩ := HM2.out
 obtain ⟨_, _, _, q3⟩ := mk_cells hmka.box
 replace q3 : W2.cell? ⟨pb, 3, none⟩ = some (.bool false) := by rw [<- hmany]; exact q3
 obtain ⟨a0, a1, a2, a3, a4, a5, a6, a7, a8⟩ := cells9_block H42.out.1
 obtain ⟨b0, b1, b2, _, _, _⟩ := box_cells3 H7.out.1
 clear hmka
 have HPT : Hid (∀ W, Later pb W2 W -> MkE X1 most pb W { mk with next := mk.next + 1 } -> Calls Tryz.prog 71 #[.pointer (some ⟨pb, 0, none⟩), tmv h o1 l1 c1 o2 l2 c2, .slice eo en ec] W (PtQ X1 most pb W res)) := fun W' hl hmw => by
  have hl' := HL2.out.trans hl
  have k := parts_any h ps IH.out W' R X1 most pb { mk with next := mk.next + 1 } o1 l1 c1 o2 l2 c2 eo en ec e E (tslc_later HS2.out HR.out HM.out hl') HR.out hmw HMO.out (HBF.out.later hl') hec hz (HE.out.later hl' (Nat.le_succ _)) HOKL.out HFP.out (by rw [HEQR.out]; exact HRN.out)
  rw [HEQR.out] at k
  exact k
 unfold tmv at HPT
 go_wp2_with fail
 refine (HPT.out _ (Later.refl HP2.out) HM2.out).mono ?_; rintro x w3 ⟨o, c, rfl, hcl, hpt, hm3, hl3⟩
 clear a0 a1 a2 a3 a4 a5 a6 a7 a8 b0 b1 b2 q3
 obtain ⟨gp, n0, n0o, n0c, rfl, n0t, n00, n01, n02⟩ := hpt.get (i := 0) (by rw [HRL.out]; omega)
 obtain ⟨gp1, n1, n1o, n1c, e1, n1t, n10, n11, n12⟩ := hpt.get (i := 1) (by rw [HRL.out]; omega)
 obtain rfl : gp = gp1 := by cases e1; rfl
 have hgt := hpt.tf rfl (by rw [HRL.out]; omega)
 rw [HRL.out]
 have HM3 := hid hm3
 have HL3 := hid hl3
 have hpb := hm3.lt
 have HSS : Hid (∀ W, Later pb w3 W -> (W.cell? ⟨B, 0, none⟩ = some (.int .i64 h.k) /\ W.cell? ⟨B, 1, none⟩ = some (.string h.nm) /\ W.cell? ⟨B, 2, none⟩ = some (.int .i64 h.n) /\ W.cell? ⟨B, 3, none⟩ = some (.int .i64 h.tk) /\ W.cell? ⟨B, 4, none⟩ = some (.int .i64 h.tn) /\ W.cell? ⟨B, 5, none⟩ = some (.slice o1 l1 c1) /\ W.cell? ⟨B, 6, none⟩ = some (.slice o2 l2 c2) /\ W.cell? ⟨B, 7, none⟩ = some (.int .i64 h.fr) /\ W.cell? ⟨B, 8, none⟩ = some (.int .i64 h.en)) /\ (W.cell? ⟨C, 0, none⟩ = some (.int .i64 1) /\ W.cell? ⟨C, 1, none⟩ = some (.int .i64 mk.next) /\ W.cell? ⟨C, 2, none⟩ = some (.slice oo 0 cc)) /\ (W.cell? ⟨gp, 0, none⟩ = some (.int .i64 1) /\ W.cell? ⟨gp, 1, none⟩ = some (.int .i64 n0) /\ W.cell? ⟨gp, 2, none⟩ = some (.slice n0o 0 n0c)) /\ (W.cell? ⟨gp, 3, none⟩ = some (.int .i64 1) /\ W.cell? ⟨gp, 4, none⟩ = some (.int .i64 n1) /\ W.cell? ⟨gp, 5, none⟩ = some (.slice n1o 0 n1c))) := fun W hl => by
  have hl' := HL3.out.trans hl
  refine ⟨cells9_block (H42.out.later hl').1, ?_, ⟨cell_later hgt hl n00, cell_later hgt hl n01, cell_later hgt hl n02⟩, ⟨cell_later hgt hl n10, cell_later hgt hl n11, cell_later hgt hl n12⟩⟩
  obtain ⟨k0, k1, k2, _⟩ := box_cells3 (H7.out.later hl').1
  exact ⟨k0, k1, k2⟩
 have HAR : Hid (∀ (W : World) (g : Nat), W.heap[g]? = some (.cells #[.int .i64 1, .int .i64 n1, .slice n1o 0 n1c, .int .i64 1, .int .i64 mk.next, .slice oo 0 cc] 24 (0, 0)) -> Calls Tryz.prog 40 #[.slice (some ⟨g, 0, none⟩) 2 2] W (ArQ W n1 mk.next)) := fun W g hg => arr2_any hg
 have HEQ : Hid (∀ (W : World) (o4 : Option Addr) (c4 : Nat), MkE X1 most pb W res.2 -> SlcIn (TF X1 pb W) W o4 2 (arrT (tv n1) (tv mk.next)).2.2 -> Calls Tryz.prog 66 #[.pointer (some ⟨pb, 0, none⟩), .agg #[.int .i64 1, .int .i64 n0, .slice n0o 0 n0c], .agg #[.int .i64 4, .int .i64 0, .slice o4 2 c4], .agg #[.int .i64 h.fr, .int .i64 h.en]] W (MkU X1 most pb W fin)) := fun W o4 c4 hmw hs => by
  have k := equate_any (o1 := n0o) (l1 := 0) (c1 := n0c) (c2 := c4) hmw HMO.out (tv n0) (arrT (tv n1) (tv mk.next)) h.fr h.en (SlcIn.nil _ _ _) hs (by show Fo.nil.size <= _; decide) (Nat.le_of_ble_eq_true rfl)
  have e := HFIN.out
  rw [n0t, n1t] at e
  rw [e] at k
  exact k
 replace hi1 := hi1 hl2
 replace hj1 := hj1 hl2
 clear hpt hm3 hl3 hgt n0t n1t hi2 hj2
 obtain ⟨⟨a0, a1, a2, a3, a4, a5, a6, a7, a8⟩, ⟨b0, b1, b2⟩, ⟨p0, p1, p2⟩, ⟨p3, p4, p5⟩⟩ := HSS.out w3 (Later.refl hpb)
 have hmk := HM3.out
 have hlc := Later.refl hpb
 clear n00 n01 n02 n10 n11 n12
 go_upto_region 20 with fail
 go_region_held3 (fun W => (W.cell? ⟨B, 0, none⟩ = some (.int .i64 h.k) /\ W.cell? ⟨B, 1, none⟩ = some (.string h.nm) /\ W.cell? ⟨B, 2, none⟩ = some (.int .i64 h.n) /\ W.cell? ⟨B, 3, none⟩ = some (.int .i64 h.tk) /\ W.cell? ⟨B, 4, none⟩ = some (.int .i64 h.tn) /\ W.cell? ⟨B, 5, none⟩ = some (.slice o1 l1 c1) /\ W.cell? ⟨B, 6, none⟩ = some (.slice o2 l2 c2) /\ W.cell? ⟨B, 7, none⟩ = some (.int .i64 h.fr) /\ W.cell? ⟨B, 8, none⟩ = some (.int .i64 h.en)) /\ (W.cell? ⟨C, 0, none⟩ = some (.int .i64 1) /\ W.cell? ⟨C, 1, none⟩ = some (.int .i64 mk.next) /\ W.cell? ⟨C, 2, none⟩ = some (.slice oo 0 cc)) /\ (W.cell? ⟨gp, 0, none⟩ = some (.int .i64 1) /\ W.cell? ⟨gp, 1, none⟩ = some (.int .i64 n0) /\ W.cell? ⟨gp, 2, none⟩ = some (.slice n0o 0 n0c)) /\ (W.cell? ⟨gp, 3, none⟩ = some (.int .i64 1) /\ W.cell? ⟨gp, 4, none⟩ = some (.int .i64 n1) /\ W.cell? ⟨gp, 5, none⟩ = some (.slice n1o 0 n1c)))
  (((refine HSS.out _ ?_); (repeat with_reducible first | exact hlc | exact Later.refl hpb | refine jm hpb ?_ | refine jo hpb ?_)))
  (first
   | (go_at_call 40; (with_reducible refine Calls.mono (HAR.out _ _ ?hblk) ?_); (case hblk => (repeat (first | ((with_reducible refine blk_new _ _ _ _ ?hbe); (case hbe => (simp; done))) | with_reducible refine blk_after (Quiet0.alloc _ _) ?_ | with_reducible refine blk_drew ?_ | fail))); rintro e wx ⟨o4, c4, rfl, hs4, hqx⟩; (refine with_new (pb := pb) (X := X1) (most := most) (k := res.2) ?hm5 hqx hs4 ?_; (case hm5 => (repeat with_reducible first | exact hmk | refine ja ?_ | refine jb ?_)); intro hs4); (refine with_ml (pb := pb) (X := X1) (most := most) (k := res.2) (w0 := w3) ?hl2 ?hm2 hqx ?_); (case hl2 => (repeat with_reducible first | exact hlc | exact Later.refl hpb | refine jm hpb ?_ | refine jo hpb ?_)); (case hm2 => (repeat with_reducible first | exact hmk | refine ja ?_ | refine jb ?_)); intro hlc hmk)
   | ((go_at_call 66; (with_reducible refine Calls.mono (HEQ.out _ _ _ ?hm ?hs1) ?_)); (case hm => (repeat with_reducible first | exact hmk | refine ja ?_ | refine jb ?_)); (case hs1 => (repeat (first | with_reducible exact hs4 | ((with_reducible refine slc_st (pb := pb) (X := X1) (most := most) (k := res.2) ?hmS (Quiet0.alloc _ _) ?_); (case hmS => (repeat with_reducible first | exact hmk | refine ja ?_ | refine jb ?_))) | ((with_reducible refine slc_st (pb := pb) (X := X1) (most := most) (k := res.2) ?hmS (Quiet0.drew _) ?_); (case hmS => (repeat with_reducible first | exact hmk | refine ja ?_ | refine jb ?_))) | fail))); rintro e wx ⟨rfl, hmk, hlx⟩; (refine with_lt (pb := pb) (w0 := w3) ?hl2 hlx ?_); (case hl2 => (repeat with_reducible first | exact hlc | exact Later.refl hpb | refine jm hpb ?_ | refine jo hpb ?_)); intro hlc)
   | fail)
 all_goals
  have HM4 := hid hmk
  have HL4 := hid (HL3.out.trans hlc)
  clear hmk hlc
  obtain ⟨g0, g1, g2, _, _, _⟩ := box_cells3 (H7.out.later HL4.out).1
  have hb6 := (H62.out.later HL4.out).1
  have HB6 := hid hb6
  obtain ⟨d0, d1, d2, y0, y1, y2⟩ := box_cells3 hb6
  clear hb6
  go_wp2_with fail
  clear d0 d1 d2 y0 y1 y2
  have hf := put3_fr wx (B + 1) (.int .i64 1) (.int .i64 mk.next) (.slice oo 0 cc)
  obtain ⟨f0, f1, f2⟩ := put3_cells (a := .int .i64 1) (b := .int .i64 mk.next) (c := .slice oo 0 cc) HB6.out
  change bodyPost _ _ _ _ _ (put3 wx (B + 1) (.int .i64 1) (.int .i64 mk.next) (.slice oo 0 cc))
  generalize put3 wx (B + 1) (.int .i64 1) (.int .i64 mk.next) (.slice oo 0 cc) = wf at *
  refine bodyPost_ret (by simp [results, Tryz.results42, go_sem, f0, f1, f2]; rfl) rfl ?_
  have hp : pb < W.heap.size := by rw [hBB]; exact HP.out
  refine ⟨mk.next, oo, cc, by rw [HRES.out], rfl, ?_, (HL2.out.trans HL4.out).put hf hp (fun i hi => by omega)⟩
  rw [HRES.out]
  exact (HM4.out.put (hf.mono (fun i _ e => by rw [HX1.out]; exact Or.inr (by omega)))).less (fun i hi => by rw [HX1.out]; exact Or.inl hi)
end Em
end
section
open Go.RowKit
namespace Em
theorem kept_of {X : Nat -> Prop} {most : Int} {pb : Nat} {W : World} {k : Mk} {g c : Nat} {xs : List Value} (h : MkAt X most pb W k (some ⟨g, 0, none⟩) c xs) (s : Nat) : KeptAt pb W (some ⟨g, s * 8, none⟩) (k.eqs.drop s) := by
 refine .inr ⟨g, s * 8, rfl, fun W' hl => ?_⟩
 have hc : W.cell? ⟨pb, 0, none⟩ = some (.slice (some ⟨g, 0, none⟩) k.eqs.length c) := (mk_cells h.box).1
 have hlow := h.low g rfl
 have hgl := (h.own.lt g rfl).2
 have hpre := (hl.pre g _ _ hc (by omega) hgl).1
 have h1 : QAt (TF X pb W) W g 0 k.eqs := QAt.of_row h.cells (fun j u hj => by
  have := h.own.cells (g := g) rfl j u hj
  simpa [Addr.add_lit] using this)
 have h2 : QAt (TF X pb W') W' g 0 k.eqs := h1.move hl.fr (fun i hi ht => ⟨hl.tf hi ht, fun e => e.elim ht.1 ht.2.1⟩) (fun j hj => by rw [Nat.zero_add]; exact hpre j hj)
 intro i t hi
 rw [List.getElem?_drop] at hi
 obtain ⟨o1, l1, c1, o2, l2, c2, s1, s2, a0, a1, a2, a3, a4, a5, a6, a7⟩ := h2 (s + i) t hi
 have e : ∀ j, 0 + (s + i) * 8 + j = s * 8 + i * 8 + j := fun j => by omega
 have m : ∀ i, TF X pb W' i -> TF (fun _ => False) pb W' i := fun i h => ⟨h.1, h.2.1, fun h => h⟩
 refine ⟨o1, l1, c1, o2, l2, c2, s1.mono (fun i _ h => m i h), s2.mono (fun i _ h => m i h), ?_⟩
 have e0 := e 0
 simp only [Nat.add_zero] at e0
 rw [e0] at a0
 rw [e 1] at a1
 rw [e 2] at a2
 rw [e 3] at a3
 rw [e 4] at a4
 rw [e 5] at a5
 rw [e 6] at a6
 rw [e 7] at a7
 exact ⟨a0, a1, a2, a3, a4, a5, a6, a7⟩
def BindQ (X : Nat -> Prop) (most : Int) (pb : Nat) (W : World) (r : Ty × Mk) (f : Pm Ty) (x : Ending) (w' : World) : Prop := ∃ bs ls, x = .returned (.func bs #[] ls) /\ MeanT most pb r.2.next w' (.func bs #[] ls) f /\ MkE X most pb w' r.2 /\ Later pb W w'
def RecR (X : Nat -> Prop) (most : Int) (pb : Nat) (W4 : World) (rt : Ty × Mk) (v : Value) (wx : World) : Prop := ∃ F n9 o9 c9, v = .pointer (some ⟨F, 0, none⟩) /\ rt.1 = tv n9 /\ Bx pb wx F #[.int .i64 1, .int .i64 n9, .slice o9 0 c9] 24 /\ MkE X most pb wx rt.2 /\ Later pb W4 wx
theorem firstM_nm (most : Int) (h : Nd) (ps : To) {E : Env} (hE : NE E) : NM (firstM most h (valsM most ps) E) := by
 unfold firstM
 exact NM.ite (vat_nm (valsM_nm most ps) 0 hE) (NM.bind NM.take fun v => NM.bind (vat_nm (valsM_nm most ps) 0 (hE.cons (NM.pure v))) fun _ => NM.bind (NM.eqn _ _ _ _ _) fun _ => NM.pure _)
end Em
end
end Go.Proofs.YtcninopmelmajaaGreatDoor
