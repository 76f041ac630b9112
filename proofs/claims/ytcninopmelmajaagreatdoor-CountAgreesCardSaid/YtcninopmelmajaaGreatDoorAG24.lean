/-
  Texts laid together (EqAgr, TeLaid): laws and walks, with their conditions.
-/
import Derived.LaidMore
import Derived.Stop.Joined
import Derived.LaidLaws
import Derived.Lib.LaidTab
import Derived.Stop.LaidErr
import Derived.Test.YtcninopmelmajaaGreatDoorAG23
set_option maxHeartbeats 8000000
set_option maxRecDepth 1000000
namespace Go.Proofs.YtcninopmelmajaaGreatDoor
open Go.Lib (hid)
section
open Go.RowKit Go.Shelf
namespace Em
theorem countAgrees_all (h : Nd) (ps : To) (w : World) (o1 : Option Addr) (l1 c1 : Nat) (o2 : Option Addr) (l2 c2 : Nat) (h1 : SlcIn (Low w) w o1 l1 h.tp) (h2 : TSlc (Low w) w o2 l2 ps) (ho : OkO h) (hop : allT OkO ps) (ht : Lx.Spaces w) :
    Calls Tryz.prog 7 #[tmv h o1 l1 c1 o2 l2 c2] w fun e w' => e = .returned (.bool true) /\ Quiet0 w w' := by
 obtain ⟨W0, hW0⟩ : ∃ W0, W0 = w.alloc (.cells (cells9 h o1 l1 c1 o2 l2 c2) 29) := ⟨_, rfl⟩
 have hq0 : Quiet0 w W0 := by rw [hW0]; exact Quiet0.alloc _ _
 have HQ0 := hid hq0
 have HB : Hid (∀ W, Quiet0 W0 W -> (W.cell? ⟨w.heap.size, 0, none⟩ = some (.int .i64 h.k) /\ W.cell? ⟨w.heap.size, 1, none⟩ = some (.string h.nm) /\ W.cell? ⟨w.heap.size, 2, none⟩ = some (.int .i64 h.n) /\ W.cell? ⟨w.heap.size, 3, none⟩ = some (.int .i64 h.tk) /\ W.cell? ⟨w.heap.size, 4, none⟩ = some (.int .i64 h.tn) /\ W.cell? ⟨w.heap.size, 5, none⟩ = some (.slice o1 l1 c1) /\ W.cell? ⟨w.heap.size, 6, none⟩ = some (.slice o2 l2 c2) /\ W.cell? ⟨w.heap.size, 7, none⟩ = some (.int .i64 h.fr) /\ W.cell? ⟨w.heap.size, 8, none⟩ = some (.int .i64 h.en))) := by
  intro W hq; rw [hW0] at hq; exact box9 w h o1 l1 c1 o2 l2 c2 _ W hq
 have HG : Hid (∀ W, Quiet0 W0 W -> Calls Tryz.prog 8 #[tmv h o1 l1 c1 o2 l2 c2] W fun e w' => e = .returned (.bool (Cn.great17 h ps)) /\ Quiet0 W w') := fun W hq => Cn.great17_any h ps w W o1 l1 c1 o2 l2 c2 h1 h2 ho hop (hq0.trans hq)
 have HA : Hid (∀ W, Quiet0 W0 W -> Calls Tryz.prog 9 #[] W fun e w' => e = .returned (.bool true) /\ Quiet0 W w') := fun W hq => Cn.awake18_any W (ht.stay (hq0.trans hq))
 have HE : Hid (Cn.great17 h ps = false -> ∀ W, Quiet0 W0 W -> Calls Tryz.prog 10 #[tmv h o1 l1 c1 o2 l2 c2] W fun e w' => e = .returned (.tuple #[.int .i64 (Cn.eqsN h ps).1, .int .i64 (Cn.eqsN h ps).2]) /\ Quiet0 W w') := fun hg W hq => by
  have hsm := Sc.small_of (Cn.great17_no hg) ho hop
  exact Cn.eqs_any h ps W _ o1 l1 c1 o2 l2 c2 (h1.stay (hq0.trans hq)) (h2.stay (hq0.trans hq)) (by have := hsm.size; omega) hsm.good (ht.stay (hq0.trans hq))
 have HV : Hid (Cn.great17 h ps = false -> ∀ W, Quiet0 W0 W -> Calls Tryz.prog 11 #[tmv h o1 l1 c1 o2 l2 c2] W fun e w' => e = .returned (.tuple #[.int .i64 (Cn.varsN h ps).1, .int .i64 (Cn.varsN h ps).2]) /\ Quiet0 W w') := fun hg W hq => by
  have hsm := Sc.small_of (Cn.great17_no hg) ho hop
  exact Cn.vars_any h ps W _ o1 l1 c1 o2 l2 c2 (h1.stay (hq0.trans hq)) (h2.stay (hq0.trans hq)) (by have := hsm.size; omega) hsm.good (ht.stay (hq0.trans hq))
 have HO : Hid (Cn.great17 h ps = false -> ∀ W, Quiet0 W0 W -> Calls Tryz.prog 19 #[tmv h o1 l1 c1 o2 l2 c2, .int .i64 300] W (OfQ W (ofN h ps 300))) := fun hg W hq => by
  have hsm := Sc.small_of (Cn.great17_no hg) ho hop
  exact of_any h ps 300 W _ o1 l1 c1 o2 l2 c2 (h1.stay (hq0.trans hq)) (h2.stay (hq0.trans hq)) (by have := hsm.size; omega) hsm.good (ht.stay (hq0.trans hq))
 have HP : Hid (Cn.great17 h ps = false -> (∃ er, er ≠ 0 /\ Cn.eqsN h ps = (0, er) /\ ofN h ps 300 = ([], er)) ∨ ((Cn.eqsN h ps).2 = 0 /\ ((300 < (Cn.eqsN h ps).1 /\ ofN h ps 300 = ([], 6)) ∨ ((Cn.eqsN h ps).1 <= 300 /\ ∃ l N, ofN h ps 300 = (l, 0) /\ ((l.length : Nat) : Int) = (Cn.eqsN h ps).1 /\ N <= 10000 /\ ((N : Nat) : Int) = (Cn.varsN h ps).1 /\ ∀ t ∈ l, tyW N t.1 /\ tyW N t.2.1)))) := fun hg => by
  have hsm := Sc.small_of (Cn.great17_no hg) ho hop
  by_cases h0 : (Sc.rsvP h ps).2.2 = 0
  ·exact .inr ⟨by rw [(eqsN_sat h0).1], agrees h0 hsm.good (by have := hsm.size; omega)⟩
  ·exact .inl ⟨_, h0, rsv_eqs h0⟩
 clear h1 h2 ho hop ht hq0
 unfold tmv at HG HE HV HO ⊢
 generalize Cn.great17 h ps = g at *
 generalize Cn.eqsN h ps = en at *
 generalize Cn.varsN h ps = vn at *
 generalize ofN h ps 300 = on at *
 obtain ⟨n, e0⟩ := en
 obtain ⟨k, e1⟩ := vn
 obtain ⟨ol, oe⟩ := on
 dsimp only at HE HV HO HP
 go_enter Tryz.func7, Tryz.ntmps7
 go_upto_region 1 with fail
 rw [<- hW0]
 clear hW0
 generalize hBB : w.heap.size = B at *
 clear hBB
 obtain ⟨a0, a1, a2, a3, a4, a5, a6, a7, a8⟩ := HB.out W0 (Quiet0.refl _)
 go_wp2_with fail
 refine (HG.out _ (Quiet0.refl _)).mono ?_; rintro x w1 ⟨rfl, hq1⟩
 clear a0 a1 a2 a3 a4 a5 a6 a7 a8
 obtain ⟨a0, a1, a2, a3, a4, a5, a6, a7, a8⟩ := HB.out w1 hq1
 have HQ1 := hid hq1
 clear hq1
 cases g
 case true =>
  go_wp2_with fail
  refine (HA.out _ HQ1.out).mono ?_; rintro x wz ⟨rfl, hqz⟩
  have HQZ := hid hqz
  clear hqz
  go_wp2_with fail
  go_ret
  exact ⟨rfl, HQ0.out.trans (HQ1.out.trans HQZ.out)⟩
 case false =>
  have HP2 := hid (HP.out (by trivial))
  go_wp2_with fail
  refine (HE.out (by trivial) _ HQ1.out).mono ?_; rintro x w2 ⟨rfl, hq2⟩
  have HQ2 := hid (HQ1.out.trans hq2)
  clear hq2 a0 a1 a2 a3 a4 a5 a6 a7 a8
  obtain ⟨a0, a1, a2, a3, a4, a5, a6, a7, a8⟩ := HB.out w2 HQ2.out
  go_wp2_with fail
  refine (HO.out (by trivial) _ HQ2.out).mono ?_; rintro x w3 ⟨p3, c3, rfl, hc3, he3, hq3⟩
  have HQ3 := hid (HQ2.out.trans hq3)
  have HE3 := hid he3
  clear hq3 he3 a0 a1 a2 a3 a4 a5 a6 a7 a8
  obtain ⟨a0, a1, a2, a3, a4, a5, a6, a7, a8⟩ := HB.out w3 HQ3.out
  dsimp only at HE3 hc3 ⊢
  rcases HP2.out with ⟨er, her, heq, hof⟩ | ⟨he0, hgt | hle⟩
  ·obtain ⟨rfl, rfl⟩ := Prod.mk.inj heq
   obtain ⟨rfl, rfl⟩ := Prod.mk.inj hof
   have hne : (oe != 0) = true := by simp [her]
   clear heq hof her
   rw [List.length_nil]
   go_wp2_with fail
   refine (HA.out _ HQ3.out).mono ?_; rintro x wz ⟨rfl, hqz⟩
   have HQZ := hid hqz
   clear hqz
   go_wp2_with fail
   go_ret
   exact ⟨rfl, HQ0.out.trans (HQ3.out.trans HQZ.out)⟩
  ·obtain ⟨hn, hof⟩ := hgt
   obtain rfl : e0 = 0 := he0
   obtain ⟨rfl, rfl⟩ := Prod.mk.inj hof
   clear hof
   rw [List.length_nil]
   go_wp2_with fail
   refine (HA.out _ HQ3.out).mono ?_; rintro x wz ⟨rfl, hqz⟩
   have HQZ := hid hqz
   clear hqz
   go_wp2_with fail
   go_ret
   exact ⟨rfl, HQ0.out.trans (HQ3.out.trans HQZ.out)⟩
  ·obtain ⟨hn, l, N, hof, hll, hN, hk, hw⟩ := hle
   obtain rfl : e0 = 0 := he0
   obtain ⟨rfl, rfl⟩ := Prod.mk.inj hof
   have hn' : ¬ 300 < n := by have : n <= 300 := hn; omega
   obtain rfl : (N : Int) = k := hk
   obtain rfl : ((ol.length : Nat) : Int) = n := hll
   have HVS : Hid (∀ W, EqsAt W p3 ol -> Calls Tryz.prog 23 #[.slice p3 ol.length c3] W fun x w' => ∃ r : Int, x = .returned (.int .i64 r) /\ 0 <= r /\ r <= N /\ Quiet0 W w') := fun W hE => evars_any ol N (by omega) W p3 c3 hE hw
   clear hof hw hn
   generalize ol.length = ln at *
   go_wp2_with fail
   refine (HV.out (by trivial) _ HQ3.out).mono ?_; rintro x w4 ⟨rfl, hq4⟩
   have HQ4 := hid (HQ3.out.trans hq4)
   have HE4 := hid (HE3.out.stay hq4)
   clear hq4 a0 a1 a2 a3 a4 a5 a6 a7 a8
   go_wp2_with fail
   refine (HVS.out _ HE4.out).mono ?_; rintro x w5 ⟨r, rfl, hr0, hr1, hq5⟩
   have HQ5 := hid (HQ4.out.trans hq5)
   clear hq5
   go_wp2_with fail
   refine (HA.out _ HQ5.out).mono ?_; rintro x wz ⟨rfl, hqz⟩
   have HQZ := hid hqz
   clear hqz
   go_wp2_with fail
   go_ret
   exact ⟨rfl, HQ0.out.trans (HQ5.out.trans HQZ.out)⟩
end Em
end
section
open Go.ChangeShapes Go.WideShapes Go.ChangeAt Go.RowKit
def doorSteps : Nat := 48
def laidL : List (String × DataW Unit) := [("unicode.White_Space", Rows.laid_unicode_White_Space), ("strings.asciiSpace", Rows.laid_strings_asciiSpace)]
theorem ascii_data : (Rows.laid_strings_asciiSpace : DataW Unit) = Lib.tabData .u8 Lib.asciiSpaceTab := by rfl
theorem door_met (os : Os) (args : Array Value) : laidMetH Tryz.prog laidL ((World.doorLaid Tryz.prog doorSteps os).forCall (fun _ _ => 0) ⟨#[], args, []⟩).memory :=
 laidMetH_of_parts3 (fuel := 8) (laidMet_of_run' 8 (by kernel_rfl) (by kernel_rfl)) (by kernel_rfl) (by kernel_rfl)
theorem spaces_of_laid {W : World} (h : laidMetH Tryz.prog laidL W) : Lx.Spaces W := by
 rw [MakeChecks.laidMetH_plain _ _ _ (by kernel_rfl)] at h
 have h2 := laidMet.tail h
 rw [ascii_data] at h2
 exact Lib.tabIs_of_head (g := 0) (n := 256) (by kernel_rfl) (by kernel_rfl) (t := 163) (e := 5) Tryz.underlying163 Tryz.underlying5 (by kernel_rfl) (by kernel_rfl) h2
end
end Go.Proofs.YtcninopmelmajaaGreatDoor
