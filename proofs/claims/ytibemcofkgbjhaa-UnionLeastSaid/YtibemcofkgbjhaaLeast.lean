/-
  UnionLeast, the walk where it goes on (few pairs): it returns true and turns nothing that was there. Conditions: the pairs' cells are as told, at most 40 pairs.
-/
import Derived.Test.YtibemcofkgbjhaaOrder
import Derived.Test.YtibemcofkgbjhaaReach
import Derived.Deep.QuietTactic
import Derived.BigQuiet
namespace Go.Proofs.Ytibemcofkgbjhaa
open Go.RowKit

theorem info4 : (Try.prog.info? 4).map (fun i => (i.zero, i.size, i.bytes)) = some (some (.bool false), 1, 1) := by kernel_rfl

def bv (l : List Bool) : List Value := l.map Value.bool
theorem bv_get (l : List Bool) (x : Nat) (hx : x < l.length) : (bv l)[x]? = some (.bool (l.getD x false)) := by simp [bv, hx]
theorem bv_set (l : List Bool) (x : Nat) (v : Bool) : (bv l).set x (.bool v) = bv (l.set x v) := by simp [bv, List.map_set]
/-- a []bool of the call's own: all of block g -/
def BRow (w : World) (g m : Nat) (l : List Bool) : Prop := l.length = m ∧ w.ownsRow 0 4 1 (.slice (some ⟨g, 0, none⟩) m m) m (bv l)
theorem BRow.cell {w : World} {g m : Nat} {l : List Bool} (h : BRow w g m l) {x : Nat} (hx : x < m) : w.cell? ⟨g, x, none⟩ = some (.bool (l.getD x false)) := by
  rw [h.2.cellAt x (by omega), bv_get _ _ (by have := h.1; omega)]
theorem BRow.free {w : World} {g m : Nat} {l : List Bool} (h : BRow w g m l) (x : Nat) : w.frozen? ⟨g, x, none⟩ = false := h.2.frozenAt x
theorem BRow.set {w : World} {g m : Nat} {l : List Bool} (h : BRow w g m l) (x : Nat) (v : Bool) : BRow (w.setCell ⟨g, x, none⟩ (.bool v)) g m (l.set x v) := by
  refine ⟨by simpa using h.1, ?_⟩
  rw [← bv_set]; exact (h.2.stored x _).1
theorem BRow.fr {S : Nat → Prop} {w w' : World} {g m : Nat} {l : List Bool} (h : BRow w g m l) (hf : Fr S w w') (hs : ¬ S g) : BRow w' g m l :=
  ⟨h.1, ownsRow_fr h.2 hf (fun k hk => by simp [Value.ownBlock] at hk; subst hk; exact hs)⟩
theorem BRow.lt {w : World} {g m : Nat} {l : List Bool} (h : BRow w g m l) : g < w.heap.size := (h.2.lt g rfl).2
theorem BRow.drew {w : World} {g m : Nat} {l : List Bool} (h : BRow w g m l) : BRow w.drew g m l := h

set_option maxRecDepth 100000 in
set_option maxHeartbeats 2000000 in
theorem unionLeast_walk (N : Nat) (o : Option Addr) (len cap : Nat) (A B : Nat → Nat) (w : World) (hN : N ≤ 255) (hl : PairsAt w o len A B) (hlen : len ≤ 40) :
    Calls Try.prog 4 #[.int .u8 N, .slice o len cap] w fun e w' => e = .returned (.bool true) ∧ Quiet0 w w' := by
  have H1 := Lib.hid hl
  clear hl
  have g1 : ¬ 40 < len := by omega
  obtain ⟨i0, hi, hz0, hz1, hz2⟩ := info_parts info4
  go_enter Try.func4, Try.ntmps4
  go_wp2_with fail
  obtain ⟨m, hm⟩ : ∃ m : Nat, m = 1 + N % 20 := ⟨_, rfl⟩
  have hmc : (1 + (N : Int) % 20) = (m : Int) := by omega
  have hm0 : 0 < m := by omega
  have hm20 : m ≤ 20 := by omega
  rw [hmc]
  clear hmc hm
  refine (new_fs m _ (by omega) hm0).mono ?_; rintro e w1 ⟨rfl, ub, rb, hF, hfr1, hu, hr⟩
  have HF := Lib.hid hF
  clear hF
  have hs1 := hfr1.size
  have hlog : Nat.log2 m ≤ 4 := by
    have : Nat.log2 m < 5 := (Nat.log2_lt (by omega)).2 (by omega)
    omega
  go_wp2_with fail
  generalize hfb : w.heap.size = fb at *
  have HFB := Lib.hid hfb
  clear hfb
  go_loopw [8] (fun t wr => ∃ k R sets st, k ≤ len ∧ t = .int .i64 (k : Nat) ∧ FS wr fb ub rb m R sets st ∧ Full k (fun j => A j % m) (fun j => B j % m) R ∧ Sound m (Full k (fun j => A j % m) (fun j => B j % m)) R ∧ st ≤ 20 * k ∧ Fr (fun _ => False) w wr) (fun t _ => len - (intOf t).toNat)
  case atStart => exact ⟨0, _, m, 0, Nat.zero_le _, rfl, HF.out, fun j hj => by omega, Sound.id _ _, by omega, hfr1⟩
  case round =>
    obtain ⟨k, R, sets, st, hk, rfl, hF, hfull, hsound, hst, hfr⟩ := hrel
    have HFr := Lib.hid hF
    have HFull := Lib.hid hfull
    have HSound := Lib.hid hsound
    clear hF hfull hsound
    by_cases hlt : k < len
    · obtain ⟨b, off, rfl, ca, cb, la, lb⟩ := H1.out.fr hfr k hlt
      have am : A k % m < m := Nat.mod_lt _ hm0
      have bm : B k % m < m := Nat.mod_lt _ hm0
      have wA : IntKind.i64.wrap ((A k : Nat) : Int) = ((A k : Nat) : Int) := IntWalk.i64_in _ (by omega)
      have wB : IntKind.i64.wrap ((B k : Nat) : Int) = ((B k : Nat) : Int) := IntWalk.i64_in _ (by omega)
      have tA : ((A k : Nat) : Int).tmod (m : Int) = ((A k % m : Nat) : Int) := by rw [Int.tmod_eq_emod_of_nonneg (by omega)]; simp
      have tB : ((B k : Nat) : Int).tmod (m : Int) = ((B k % m : Nat) : Int) := by rw [Int.tmod_eq_emod_of_nonneg (by omega)]; simp
      have hmz : ¬ m = 0 := by omega
      go_wp2_with fail
      refine wp_region_still_tail 17 (by kernel_rfl) (by kernel_rfl) ?_
      simp only [List.take_succ_cons, List.take_zero, List.drop_succ_cons, List.drop_zero]
      change wpStill _ _ (World.drew wr) _ _ _
      repeat still_step
      refine wpStill_nil ?_
      clear wA wB tA tB
      change wpList _ _ _ _ _ (World.drew wr)
      go_wp2_with fail
      refine (join_fsi fb ub rb m R sets st (A k % m) (B k % m) _ _ _ (by rfl) (by rfl) HFr.out.drew am bm (by omega)).mono ?_
      rintro e w3 ⟨x, y, s', st', hp, rfl, hF3, hst3, hst3', hfr3, hz3⟩
      have HF3 := Lib.hid hF3
      have HP := Lib.hid hp
      clear hF3 hp
      go_wp2
      go_roundw
      case rel =>
        have hfb := HFB.out
        refine ⟨k + 1, joined R x y, s', st', by omega, by go_num, HF3.out, ?_, ?_, by omega, ?_⟩
        · intro j hj
          by_cases e : j = k
          · subst e; exact joined_pair HP.out
          · exact joined_resp (HFull.out j (by omega))
        · exact (HSound.out.mono (fun S hS j hj => hS j (by omega))).joined am bm HP.out (fun S hS => hS k (by omega))
        · exact (hfr.trans (Fr.drew _ _)).trans' hfr3 (by omega)
      case measure => simp [intOf]; omega
    · have hkl : len = k := by omega
      subst hkl
      have hstb : st ≤ 800 := by omega
      clear hst hlt
      go_wp2_with fail
      go_loopw [4, 9] (fun _ t wr2 => ∃ i st2, i ≤ m ∧ t = .int .i64 (i : Nat) ∧ FS wr2 fb ub rb m R sets st2 ∧ st2 ≤ 800 + 400 * i ∧ Fr (fun _ => False) w wr2) (fun _ t _ => m - (intOf t).toNat)
      case atStart => exact ⟨0, st, Nat.zero_le _, rfl, HFr.out, by omega, hfr⟩
      case round =>
        obtain ⟨i, st2, him, rfl, hF, hst2, hfr2⟩ := hrel
        have HF2 := Lib.hid hF
        clear hF
        by_cases hi2 : i < m
        · go_wp2_with (at_make; refine wpList_make_full _ rfl _ _ 35 rfl 0 4 i0 (.bool false) 1 Try.underlying35 hi hz0 hz1 _ _ _ _ m rfl rfl rfl rfl ?b2 ?b3 ?b4 ?_)
          case b2 => rw [hz2]; omega
          case b3 => unfold maxLen; omega
          case b4 => exact Nat.zero_le _
          intro w2 hown hgrow
          have hgl : fb < wr.heap.size ∧ ub < wr.heap.size ∧ rb < wr.heap.size := HF2.out.lts
          have hfrg : Fr (fun _ => False) wr w2 := Fr.grown hgrow (fun k hk => by cases hk)
          have hgw : w.heap.size ≤ wr.heap.size := hfr2.size
          generalize hgg : wr.heap.size = g at *
          have HB : Hid (BRow w2 g m (List.replicate m false)) := by
            refine ⟨by simp, ?_⟩
            rw [toList_madeCells_one] at hown
            have e : bv (List.replicate m false) = List.replicate m (.bool false) := by simp [bv]
            rw [e]; exact hown
          have HF3 := Lib.hid (HF2.out.fr hfrg (fun h => h) (fun h => h) (fun h => h))
          have hfr3 := hfr2.trans hfrg
          have cg := HB.out.cell hi2
          have zg := HB.out.free i
          have HB2 := Lib.hid (HB.out.set i true)
          have hfr4 := hfr3.trans' (Fr.setCell (fun k => k = g) w2 ⟨g, i, none⟩ (.bool true) rfl) (by omega)
          have HF4 := Lib.hid (HF3.out.fr (Fr.setCell (fun k => k = g) w2 ⟨g, i, none⟩ (.bool true) rfl) (by omega) (by omega) (by omega))
          have HGW := Lib.hid hgw
          clear hown hgrow HB HF3 hfrg hgg hfr3 hfr2 HF2 hgw
          go_wp2_with fail
          clear cg zg
          generalize w2.setCell ⟨g, i, none⟩ (.bool true) = w4 at *
          go_loopw [11] (fun t wr3 => ∃ r l, r ≤ m ∧ t = .int .i64 (r : Nat) ∧ FS wr3 fb ub rb m R sets st2 ∧ BRow wr3 g m l ∧ ReachB m i R l ∧ RoundsB len (fun j => A j % m) (fun j => B j % m) r l ∧ Fr (fun _ => False) w wr3) (fun t _ => m - (intOf t).toNat)
          case atStart => exact ⟨0, _, Nat.zero_le _, rfl, HF4.out, HB2.out, reach_start m i R hi2, rounds_start len _ _ m i hi2, hfr4⟩
          case round =>
            obtain ⟨r, l, hr, rfl, hF, hB, hrb, hrr, hfr5⟩ := hrel
            have HF5 := Lib.hid hF
            have HB5 := Lib.hid hB
            have HRB := Lib.hid hrb
            have HRR := Lib.hid hrr
            clear hF hB hrb hrr
            by_cases hrm : r < m
            · go_wp2_with fail
              go_loopw [12] (fun t wr4 => ∃ k l1, k ≤ len ∧ t = .int .i64 (k : Nat) ∧ FS wr4 fb ub rb m R sets st2 ∧ BRow wr4 g m l1 ∧ ReachB m i R l1 ∧ PartB len k (fun j => A j % m) (fun j => B j % m) l l1 ∧ Fr (fun _ => False) w wr4) (fun t _ => len - (intOf t).toNat)
              case atStart => exact ⟨0, l, Nat.zero_le _, rfl, HF5.out, HB5.out, HRB.out, PartB.start _ _ _ _, hfr5⟩
              case round =>
                obtain ⟨k, l1, hk1, rfl, hF, hB, hrb, hpb, hfr6⟩ := hrel
                have HF6 := Lib.hid hF
                have HB6 := Lib.hid hB
                have HRB6 := Lib.hid hrb
                have HPB := Lib.hid hpb
                clear hF hB hrb hpb
                by_cases hkl : k < len
                · obtain ⟨b, off, rfl, ca, cb, la, lb⟩ := H1.out.fr hfr6 k hkl
                  have am : A k % m < m := Nat.mod_lt _ hm0
                  have bm : B k % m < m := Nat.mod_lt _ hm0
                  have xa := HB6.out.cell am
                  have xb := HB6.out.cell bm
                  have za := HB6.out.free (A k % m)
                  have zb := HB6.out.free (B k % m)
                  have wA : IntKind.i64.wrap ((A k : Nat) : Int) = ((A k : Nat) : Int) := IntWalk.i64_in _ (by omega)
                  have wB : IntKind.i64.wrap ((B k : Nat) : Int) = ((B k : Nat) : Int) := IntWalk.i64_in _ (by omega)
                  have tA : ((A k : Nat) : Int).tmod (m : Int) = ((A k % m : Nat) : Int) := by rw [Int.tmod_eq_emod_of_nonneg (by omega)]; simp
                  have tB : ((B k : Nat) : Int).tmod (m : Int) = ((B k % m : Nat) : Int) := by rw [Int.tmod_eq_emod_of_nonneg (by omega)]; simp
                  have hmz : ¬ m = 0 := by omega
                  have HST := Lib.hid (HRB6.out.step am bm (HFull.out k hkl))
                  have HPS := Lib.hid (HPB.out.step hkl (by rw [HB6.out.1]; exact am) (by rw [HB6.out.1]; exact bm))
                  have hpa : Hid (stepB l1 (A k % m) (B k % m) = if l1.getD (A k % m) false || l1.getD (B k % m) false then (l1.set (A k % m) true).set (B k % m) true else l1) := rfl
                  generalize hva : l1.getD (A k % m) false = va at *
                  generalize hvb : l1.getD (B k % m) false = vb at *
                  clear hva hvb
                  go_wp2_with fail
                  go_quiet (fail)
                  clear wA wB tA tB
                  rw [show ((A k : Nat) : Int) % (m : Int) = ((A k % m : Nat) : Int) from by simp, show ((B k : Nat) : Int) % (m : Int) = ((B k % m : Nat) : Int) from by simp]
                  have hy := (BRow.set (w := wr.drewN nq) HB6.out (A k % m) true).cell bm
                  have HBY := Lib.hid ((BRow.set (w := wr.drewN nq) HB6.out (A k % m) true).set (B k % m) true)
                  have HFY := Lib.hid (FS.fr HF6.out (((Fr.drewN (fun k => k = g) wr nq).trans (Fr.setCell (fun k => k = g) (wr.drewN nq) ⟨g, A k % m, none⟩ (.bool true) rfl)).trans (Fr.setCell (fun k => k = g) _ ⟨g, B k % m, none⟩ (.bool true) rfl)) (by omega) (by omega) (by omega))
                  have HFRY := Lib.hid (hfr6.trans' (((Fr.drewN (fun k => k = g) wr nq).trans (Fr.setCell (fun k => k = g) (wr.drewN nq) ⟨g, A k % m, none⟩ (.bool true) rfl)).trans (Fr.setCell (fun k => k = g) _ ⟨g, B k % m, none⟩ (.bool true) rfl)) (by have := HGW.out; omega))
                  have HBZ : Hid (BRow (wr.drewN nq) g m l1) := HB6.out
                  have HFZ := Lib.hid (FS.fr HF6.out (Fr.drewN (fun _ => False) wr nq) (fun h => h) (fun h => h) (fun h => h))
                  have HFRZ := Lib.hid (hfr6.trans (Fr.drewN (fun _ => False) wr nq))
                  have hpa0 : Hid (0 = 0) := rfl
                  generalize A k % m = pa at *
                  generalize B k % m = pb at *
                  cases va
                  all_goals cases vb
                  all_goals
                    go_wp2
                    go_roundw
                    case rel =>
                      have hs := HST.out
                      have hp := HPS.out
                      rw [hpa.out] at hs hp
                      first
                        | exact ⟨k + 1, _, by omega, by go_num, HFY.out, HBY.out, hs, hp, HFRY.out⟩
                        | exact ⟨k + 1, _, by omega, by go_num, HFZ.out, HBZ.out, hs, hp, HFRZ.out⟩
                    case measure => simp [intOf]; omega
                · have hkl2 : len = k := by omega
                  subst hkl2
                  go_wp2
                  go_roundw
                  case rel => exact ⟨r + 1, l1, by omega, by go_num, HF6.out, HB6.out, HRB6.out, HRR.out.step HPB.out, hfr6⟩
                  case measure => simp [intOf]; omega
            · have hrm2 : m = r := by omega
              subst hrm2
              have hst3 := hst2
              clear hst2
              go_wp2_with fail
              go_loopw [4, 15] (fun _ t wr5 => ∃ k st3, k ≤ m ∧ t = .int .i64 (k : Nat) ∧ FS wr5 fb ub rb m R sets st3 ∧ BRow wr5 g m l ∧ st3 ≤ 800 + 400 * i + 20 * k ∧ Fr (fun _ => False) w wr5) (fun _ t _ => m - (intOf t).toNat)
              case atStart => exact ⟨0, st2, Nat.zero_le _, rfl, HF5.out, HB5.out, by omega, hfr5⟩
              case round =>
                obtain ⟨k, st3, hkm, rfl, hF, hB, hst4, hfr6⟩ := hrel
                have HF6 := Lib.hid hF
                have HB6 := Lib.hid hB
                clear hF hB
                by_cases hk : k < m
                · have heq := Lib.hid (reach_end HRB.out HRR.out HSound.out hi2 hk)
                  have cg := HB6.out.cell hk
                  generalize hlv : l.getD k false = lv at *
                  clear hlv
                  go_wp2_with fail
                  have hgu : ¬ (g = fb ∨ g = ub ∨ g = rb) := by omega
                  have hgl : g < wr.heap.size := HB6.out.lt
                  cases lv
                  all_goals
                    go_region_with (go_at_call 11; refine (same_fs fb ub rb m R sets st3 i k _ HF6.out.drew hi2 hk (by omega)).mono ?_; rintro e w6 ⟨rfl, st5, hF7, hb1, hb2, hfr7, hz7⟩; rw [heq.out]; have cg7 := (hfr7.cell (a := ⟨g, k, none⟩) hgl hgu).trans cg; have HF7 := Lib.hid hF7; clear hF7)
                  all_goals
                    go_wp2
                    go_roundw
                    case rel =>
                      have hfb := HFB.out
                      exact ⟨k + 1, st5, by omega, by go_num, HF7.out, HB6.out.drew.fr hfr7 hgu, by omega, (hfr6.trans (Fr.drew _ _)).trans' hfr7 (by omega)⟩
                    case measure => simp [intOf]; omega
                · have hkm2 : m = k := by omega
                  subst hkm2
                  go_wp2
                  go_roundw
                  case rel => exact ⟨i + 1, st3, by omega, by go_num, HF6.out, by omega, hfr6⟩
                  case measure => simp [intOf]; omega
        · go_wp2_with fail
          refine (awake_any _).mono ?_; rintro e w6 ⟨rfl, hq⟩
          go_wp2
          go_ret
          exact ⟨rfl, hfr2.trans hq⟩

set_option maxRecDepth 100000 in
theorem unionLeast_all (N : Nat) (o : Option Addr) (len cap : Nat) (A B : Nat → Nat) (w : World) (hN : N ≤ 255) (hl : PairsAt w o len A B) :
    Calls Try.prog 4 #[.int .u8 N, .slice o len cap] w fun e w' => e = .returned (.bool true) ∧ Quiet0 w w' := by
  by_cases h : 40 < len
  · go_enter Try.func4, Try.ntmps4
    go_wp2_with fail
    refine (awake_any _).mono ?_; rintro e w6 ⟨rfl, hq⟩
    go_wp2
    go_ret
    exact ⟨rfl, hq⟩
  · exact unionLeast_walk N o len cap A B w hN hl (by omega)
end Go.Proofs.Ytibemcofkgbjhaa
