/-
  Texts laid together (TeSound, TeRight, SpWithin): what each one proves, and its conditions, stands at its head.
-/
import Derived.Deep.DeepCutAuto
import Derived.Deep.RegionHeld3
import Derived.Deep.MidRow
import Derived.Shelf.Abstract
import Derived.Test.YtdlcakmjihfgfaaGreatDoorSB1
import Derived.Test.YtdlcakmjihfgfaaGreatDoorSB2
import Derived.Test.YtdlcakmjihfgfaaGreatDoorSB3
import Derived.Test.YtdlcakmjihfgfaaGreatDoorSB4
import Derived.Test.YtdlcakmjihfgfaaGreatDoorSB5
import Derived.Test.YtdlcakmjihfgfaaGreatDoorSB6
import Derived.Test.YtdlcakmjihfgfaaGreatDoorSB7
section
/-
  Whether a term is right, but for its parts: the program's shapes and plain. Conditions: the term lies in memory as told; its name and its type are small; strings.asciiSpace holds what its initialiser lays.
-/
namespace Go.Proofs.YtdlcakmjihfgfaaGreatDoor
open Go.RowKit

def kName (k : Int) : Bool := k == 1 || k == 4 || k == 6 || k == 7
def kTop (k : Int) : Int := if k == 1 then 9223372036854775807 else if k == 2 then 999999999 else if k == 3 then 1 else 0
def kLeast (k : Int) : Int := if k == 4 || k == 10 then 1 else if k == 5 || k == 6 || k == 7 || k == 9 then 2 else if k == 8 then 3 else 0
def kMost (k : Int) : Int := if k == 4 || k == 10 then 1 else if k == 5 || k == 6 || k == 7 then 2 else if k == 8 then 3 else if k == 9 then 8 else 0
def closedT (tk tn : Int) (tp : Fo) : Bool := rightT tk tn tp && (Fo.vars [] (.cons tk tn tp .nil)).isEmpty
def namedB (h : Nd) : Bool := if kName h.k then Lx.nameB h.nm.data.toList else h.nm.toList.isEmpty
def typedB (h : Nd) : Bool := if h.k == 10 then closedT h.tk h.tn h.tp else sameT h.tk h.tn h.tp 0 0 .nil
/-- is a term right, but for its parts (there are m)? -/
def soundB (h : Nd) (m : Nat) : Bool :=
  decide (1 ≤ h.k) && decide (h.k ≤ 10) && namedB h && typedB h && decide (0 ≤ h.n) && decide (h.n ≤ kTop h.k) && decide (kLeast h.k ≤ m) && decide ((m : Int) ≤ kMost h.k)

def shapeCells : Array Value := #[
  .bool false, .bool false, .int .i64 0, .int .i64 0, .int .i64 0,
  .bool true, .bool false, .int .i64 0, .int .i64 0, .int .i64 9223372036854775807,
  .bool false, .bool false, .int .i64 0, .int .i64 0, .int .i64 999999999,
  .bool false, .bool false, .int .i64 0, .int .i64 0, .int .i64 1,
  .bool true, .bool false, .int .i64 1, .int .i64 1, .int .i64 0,
  .bool false, .bool false, .int .i64 2, .int .i64 2, .int .i64 0,
  .bool true, .bool false, .int .i64 2, .int .i64 2, .int .i64 0,
  .bool true, .bool false, .int .i64 2, .int .i64 2, .int .i64 0,
  .bool false, .bool false, .int .i64 3, .int .i64 3, .int .i64 0,
  .bool false, .bool false, .int .i64 2, .int .i64 8, .int .i64 0,
  .bool false, .bool true, .int .i64 1, .int .i64 1, .int .i64 0]
theorem results_one {P : Program} {fn : Func} {tmps : Array Value} {t : TypeId} {a : Tmp} {ad : Addr} {v : Value} {w : World} (hr : fn.results = #[.cell a t]) (hx : tmps.getD a undef = .pointer (some ad)) (hl : (loadVar t ad).run P w = .ok v w) : (results fn tmps).run P w = .ok v w := by
  have hx2 : tmps[a]?.getD undef = .pointer (some ad) := by simpa using hx
  simp [results, hr, asAddr, hx2, Sem.run_bind, Sem.run_pure, Result.andThen, hl]
theorem wpList_build_as {P : Program} {ops : Array Oper} {rest : List Oper} {o : Oper} {a : Act} {w : World} {Q : Exit → Act → World → Prop} (hg : o.guard = none) (t : TypeId) (parts : Array (Nat × Operand)) (ho : o.op = .build t parts)
    (cs : Array Value) (hc : P.built t (parts.map fun (i, x) => (i, a.eval x)).toList = some cs)
    (h : wpList P ops Q rest (a.put o.dst (.agg cs)) w) : wpList P ops Q (o :: rest) a w :=
  wpList_build hg t parts ho (by rw [hc]; rfl) (by rw [hc]; exact h)
def zeroCells : Array Value := #[
  .bool false, .bool false, .int .i64 0, .int .i64 0, .int .i64 0, .bool false, .bool false, .int .i64 0, .int .i64 0, .int .i64 0,
  .bool false, .bool false, .int .i64 0, .int .i64 0, .int .i64 0, .bool false, .bool false, .int .i64 0, .int .i64 0, .int .i64 0,
  .bool false, .bool false, .int .i64 0, .int .i64 0, .int .i64 0, .bool false, .bool false, .int .i64 0, .int .i64 0, .int .i64 0,
  .bool false, .bool false, .int .i64 0, .int .i64 0, .int .i64 0, .bool false, .bool false, .int .i64 0, .int .i64 0, .int .i64 0,
  .bool false, .bool false, .int .i64 0, .int .i64 0, .int .i64 0, .bool false, .bool false, .int .i64 0, .int .i64 0, .int .i64 0,
  .bool false, .bool false, .int .i64 0, .int .i64 0, .int .i64 0]
set_option maxHeartbeats 4000000 in
set_option maxRecDepth 100000 in
theorem shapes_any (w : World) : Calls Tryz.prog 49 #[] w fun e w' => e = .returned (.agg shapeCells) ∧ Quiet0 w w' := by
  obtain ⟨W0, hW0⟩ : ∃ W0, W0 = w.alloc (.cells zeroCells 80) := ⟨_, rfl⟩
  obtain ⟨B, hB⟩ : ∃ B, B = w.heap.size := ⟨_, rfl⟩
  have hb0 : W0.heap[B]? = some (.cells zeroCells 80 (0, 0)) := by rw [hW0, hB]; exact heap_alloc_new _ _
  have HQ0 : Hid (Quiet0 w W0) := by rw [hW0]; exact Quiet0.alloc _ _
  have HB0 := Lib.hid hb0
  have HBE := Lib.hid hB
  have hi : (Tryz.prog.info? 80).map (·.size) = some 55 := by kernel_rfl
  have HI := Lib.hid hi
  clear hi hb0
  go_enter Tryz.func49, Tryz.ntmps49
  go_upto_region 1 with fail
  change Code.wp _ _ _ _ (w.alloc (.cells zeroCells 80))
  rw [← hW0, ← hB]
  clear hW0 hB
  refine wp_region_lit ?_
  with_reducible refine wpList_build_as (by rfl) 79 _ (by rfl) #[.bool true, .bool false, .int .i64 0, .int .i64 0, .int .i64 9223372036854775807] (by kernel_rfl) ?_
  simp only [Act.put, List.setIfInBounds_toArray, List.set_cons_zero, List.set_cons_succ]
  with_reducible refine wpList_build_as (by rfl) 79 _ (by rfl) #[.bool false, .bool false, .int .i64 0, .int .i64 0, .int .i64 999999999] (by kernel_rfl) ?_
  simp only [Act.put, List.setIfInBounds_toArray, List.set_cons_zero, List.set_cons_succ]
  with_reducible refine wpList_build_as (by rfl) 79 _ (by rfl) #[.bool false, .bool false, .int .i64 0, .int .i64 0, .int .i64 1] (by kernel_rfl) ?_
  simp only [Act.put, List.setIfInBounds_toArray, List.set_cons_zero, List.set_cons_succ]
  with_reducible refine wpList_build_as (by rfl) 79 _ (by rfl) #[.bool true, .bool false, .int .i64 1, .int .i64 1, .int .i64 0] (by kernel_rfl) ?_
  simp only [Act.put, List.setIfInBounds_toArray, List.set_cons_zero, List.set_cons_succ]
  with_reducible refine wpList_build_as (by rfl) 79 _ (by rfl) #[.bool false, .bool false, .int .i64 2, .int .i64 2, .int .i64 0] (by kernel_rfl) ?_
  simp only [Act.put, List.setIfInBounds_toArray, List.set_cons_zero, List.set_cons_succ]
  with_reducible refine wpList_build_as (by rfl) 79 _ (by rfl) #[.bool true, .bool false, .int .i64 2, .int .i64 2, .int .i64 0] (by kernel_rfl) ?_
  simp only [Act.put, List.setIfInBounds_toArray, List.set_cons_zero, List.set_cons_succ]
  with_reducible refine wpList_build_as (by rfl) 79 _ (by rfl) #[.bool true, .bool false, .int .i64 2, .int .i64 2, .int .i64 0] (by kernel_rfl) ?_
  simp only [Act.put, List.setIfInBounds_toArray, List.set_cons_zero, List.set_cons_succ]
  with_reducible refine wpList_build_as (by rfl) 79 _ (by rfl) #[.bool false, .bool false, .int .i64 3, .int .i64 3, .int .i64 0] (by kernel_rfl) ?_
  simp only [Act.put, List.setIfInBounds_toArray, List.set_cons_zero, List.set_cons_succ]
  with_reducible refine wpList_build_as (by rfl) 79 _ (by rfl) #[.bool false, .bool false, .int .i64 2, .int .i64 8, .int .i64 0] (by kernel_rfl) ?_
  simp only [Act.put, List.setIfInBounds_toArray, List.set_cons_zero, List.set_cons_succ]
  with_reducible refine wpList_build_as (by rfl) 79 _ (by rfl) #[.bool false, .bool true, .int .i64 1, .int .i64 1, .int .i64 0] (by kernel_rfl) ?_
  simp only [Act.put, List.setIfInBounds_toArray, List.set_cons_zero, List.set_cons_succ]
  with_reducible refine wpList_build_as (by rfl) 80 _ (by rfl) shapeCells (by kernel_rfl) ?_
  simp only [Act.put, List.setIfInBounds_toArray, List.set_cons_zero, List.set_cons_succ]
  with_reducible refine wpList_store_row ?e1 80 (.tmp 0) (.tmp 11) ?e2 B shapeCells ?e3 ?e4 80 zeroCells HB0.out ?e5 ?e6 ?e7 ?_
  case e1 => rfl
  case e2 => rfl
  case e3 => rfl
  case e4 => rfl
  case e5 => exact HI.out
  case e6 => rfl
  case e7 => simp [shapeCells, Value.oneCell']
  simp only [Act.put, List.setIfInBounds_toArray, List.set_cons_zero, List.set_cons_succ]
  have hb1 := setRow_heap W0 B zeroCells shapeCells 80 (0, 0) HB0.out
  have hq1 : Quiet0 w (W0.setRow B shapeCells) := Fr.trans' HQ0.out (S := fun _ => False) (T := fun k => k = B) ⟨rfl, rfl, rfl, by simp, fun k _ hk => setRow_other W0 B k shapeCells hk⟩ (fun k hk e => by have := HBE.out; omega)
  generalize W0.setRow B shapeCells = W1 at *
  have HB1 := Lib.hid hb1
  have HQ1 := Lib.hid hq1
  clear hb1 hq1
  go_wp2_with fail
  have hb1 := HB1.out
  have hl := run_loadVar_mid (P := Tryz.prog) W1 B 0 80 shapeCells.toList _ (fun j v hv => by rw [cell_of_row _ _ _ _ _ (0, 0) hb1, Nat.zero_add]; simpa using hv) Tryz.underlying80 (by rfl) HI.out
  refine bodyPost_ret (results_one (a := 0) (t := 80) (ad := ⟨B, 0, none⟩) Tryz.results49 (by rfl) hl) (by rfl) ?_
  exact ⟨rfl, HQ1.out⟩
set_option maxRecDepth 100000 in
theorem shape_at (k : Int) (h1 : 1 ≤ k) (h2 : k ≤ 10) (W : World) : Sem.run Tryz.prog (Instr.index 80 (.agg shapeCells) (.int .i64 k)) W = .ok (.agg #[.bool (kName k), .bool (k == 10), .int .i64 (kLeast k), .int .i64 (kMost k), .int .i64 (kTop k)]) W := by
  have hk : k = 1 ∨ k = 2 ∨ k = 3 ∨ k = 4 ∨ k = 5 ∨ k = 6 ∨ k = 7 ∨ k = 8 ∨ k = 9 ∨ k = 10 := by omega
  rcases hk with rfl | rfl | rfl | rfl | rfl | rfl | rfl | rfl | rfl | rfl
  all_goals rfl
theorem cells5 {w : World} {b : Nat} {a0 a1 a2 a3 a4 : Value} {t : TypeId} (h : w.heap[b]? = some (.cells #[a0, a1, a2, a3, a4] t (0, 0))) :
    w.cell? ⟨b, 0, none⟩ = some a0 ∧ w.cell? ⟨b, 1, none⟩ = some a1 ∧ w.cell? ⟨b, 2, none⟩ = some a2 ∧ w.cell? ⟨b, 3, none⟩ = some a3 ∧ w.cell? ⟨b, 4, none⟩ = some a4 := by
  refine ⟨?_, ?_, ?_, ?_, ?_⟩ <;> (rw [cell_of_row _ _ _ _ _ (0, 0) h]; rfl)
theorem set5_fr (w : World) (b : Nat) (a0 a1 a2 a3 a4 : Value) : Fr (fun j => j = b) w (((((w.setCell ⟨b, 0, none⟩ a0).setCell ⟨b, 1, none⟩ a1).setCell ⟨b, 2, none⟩ a2).setCell ⟨b, 3, none⟩ a3).setCell ⟨b, 4, none⟩ a4) :=
  ((((Fr.setCell (fun j => j = b) w ⟨b, 0, none⟩ a0 rfl).trans (Fr.setCell (fun j => j = b) _ ⟨b, 1, none⟩ a1 rfl)).trans (Fr.setCell (fun j => j = b) _ ⟨b, 2, none⟩ a2 rfl)).trans (Fr.setCell (fun j => j = b) _ ⟨b, 3, none⟩ a3 rfl)).trans (Fr.setCell (fun j => j = b) _ ⟨b, 4, none⟩ a4 rfl)
theorem set5_block {w : World} {b : Nat} {a0 a1 a2 a3 a4 b0 b1 b2 b3 b4 : Value} {t : TypeId} (h : w.heap[b]? = some (.cells #[b0, b1, b2, b3, b4] t (0, 0))) :
    (((((w.setCell ⟨b, 0, none⟩ a0).setCell ⟨b, 1, none⟩ a1).setCell ⟨b, 2, none⟩ a2).setCell ⟨b, 3, none⟩ a3).setCell ⟨b, 4, none⟩ a4).heap[b]? = some (.cells #[a0, a1, a2, a3, a4] t (0, 0)) := by
  have s0 : (w.setCell ⟨b, 0, none⟩ a0).heap[b]? = some (.cells #[a0, b1, b2, b3, b4] t (0, 0)) := set_block h
  have s1 : ((w.setCell ⟨b, 0, none⟩ a0).setCell ⟨b, 1, none⟩ a1).heap[b]? = some (.cells #[a0, a1, b2, b3, b4] t (0, 0)) := set_block s0
  have s2 : (((w.setCell ⟨b, 0, none⟩ a0).setCell ⟨b, 1, none⟩ a1).setCell ⟨b, 2, none⟩ a2).heap[b]? = some (.cells #[a0, a1, a2, b3, b4] t (0, 0)) := set_block s1
  have s3 : ((((w.setCell ⟨b, 0, none⟩ a0).setCell ⟨b, 1, none⟩ a1).setCell ⟨b, 2, none⟩ a2).setCell ⟨b, 3, none⟩ a3).heap[b]? = some (.cells #[a0, a1, a2, a3, b4] t (0, 0)) := set_block s2
  exact set_block s3
set_option maxHeartbeats 8000000 in
set_option maxRecDepth 100000 in
theorem sound_in (k : Int) (hk1 : 1 ≤ k) (hk2 : k ≤ 10) (nm : ByteArray) (n tk tn : Int) (tp0 : Fo) (fr en : Int) (w : World) (o1 : Option Addr) (l1 c1 : Nat) (o2 : Option Addr) (l2 c2 : Nat)
    (hs : Slc w o1 l1 tp0) (hnm : nm.size ≤ 100000) (hz : tp0.size ≤ 100000) (hwn : wfI tn) (hwf : wfF tp0) (hl2 : l2 ≤ 9223372036854775807) (ht : Lx.Spaces w) :
    Calls Tryz.prog 27 #[.agg #[.int .i64 k, .string nm, .int .i64 n, .int .i64 tk, .int .i64 tn, .slice o1 l1 c1, .slice o2 l2 c2, .int .i64 fr, .int .i64 en]] w fun e w' => e = .returned (.bool (soundB ⟨k, nm, n, tk, tn, tp0, fr, en⟩ l2)) ∧ Quiet0 w w' := by
  have HSH := Lib.hid (fun (W : World) => shapes_any W)
  have HNAME := Lib.hid (fun (W : World) (h : Quiet0 w W) => Lx.name_any nm hnm W (ht.stay h))
  have HSAME := Lib.hid (fun (W : World) (h : Quiet0 w W) => same_any tk tn tp0 0 0 .nil W o1 l1 c1 none 0 0 (hs.stay h) (Slc.nil _ _))
  have HRIGHT := Lib.hid (fun (W : World) (h : Quiet0 w W) => right_any tk tn tp0 W o1 l1 c1 (hs.stay h))
  have HVARS : Hid (∀ W' b, Quiet0 w W' → W'.heap[b]? = some (.cells #[.int .i64 tk, .int .i64 tn, .slice o1 l1 c1] 24 (0, 0)) → Calls Tryz.prog 53 #[.slice (some ⟨b, 0, none⟩) 1 1] W' fun e w' => ∃ a c, e = .returned (.slice a (Fo.vars [] (.cons tk tn tp0 .nil)).length c) ∧ Quiet0 W' w') := by
    intro W' b h hb
    refine (vars_any (.cons tk tn tp0 .nil) W' (some ⟨b, 0, none⟩) 1 1 (slc1 hb (hs.stay h)) ⟨hwn, hwf, trivial⟩ (by simp only [Fo.size]; omega)).mono ?_
    rintro e w' ⟨vo, rfl, hr, hq⟩
    obtain ⟨a, c, rfl, _⟩ := hr.at
    exact ⟨a, c, rfl, hq⟩
  have hix := shape_at k hk1 hk2
  obtain ⟨res, hres⟩ : ∃ res, res = soundB ⟨k, nm, n, tk, tn, tp0, fr, en⟩ l2 := ⟨_, rfl⟩
  rw [← hres]
  have HRES0 : Hid (res = ((if kName k then Lx.nameB nm.data.toList else nm.toList.isEmpty) && (if (k == 10) then (rightT tk tn tp0 && (Fo.vars [] (.cons tk tn tp0 .nil)).isEmpty) else sameT tk tn tp0 0 0 .nil) && decide (0 ≤ n) && decide (n ≤ kTop k) && decide (kLeast k ≤ (l2 : Int)) && decide ((l2 : Int) ≤ kMost k))) := by
    show _ = _
    rw [hres]; unfold soundB namedB typedB closedT; simp only [hk1, hk2, decide_true, Bool.true_and]
  clear hres hs ht hwn hwf hz hnm
  generalize kName k = sn at *
  generalize (k == 10) = st at *
  generalize kLeast k = le at *
  generalize kMost k = mo at *
  generalize kTop k = tp at *
  obtain ⟨W0, hW0⟩ : ∃ W0, W0 = w.alloc (.cells #[.int .i64 k, .string nm, .int .i64 n, .int .i64 tk, .int .i64 tn, .slice o1 l1 c1, .slice o2 l2 c2, .int .i64 fr, .int .i64 en] 29) := ⟨_, rfl⟩
  obtain ⟨B, hB⟩ : ∃ B, B = w.heap.size := ⟨_, rfl⟩
  have hb0 : W0.heap[B]? = some (.cells #[.int .i64 k, .string nm, .int .i64 n, .int .i64 tk, .int .i64 tn, .slice o1 l1 c1, .slice o2 l2 c2, .int .i64 fr, .int .i64 en] 29 (0, 0)) := by rw [hW0, hB]; exact heap_alloc_new _ _
  have HQ0 : Hid (Quiet0 w W0) := by rw [hW0]; exact Quiet0.alloc _ _
  have HB0 : Hid (∀ W, Quiet0 W0 W → W.heap[B]? = some (.cells #[.int .i64 k, .string nm, .int .i64 n, .int .i64 tk, .int .i64 tn, .slice o1 l1 c1, .slice o2 l2 c2, .int .i64 fr, .int .i64 en] 29 (0, 0))) := fun W h => (h.block _ (lt_of_block hb0) (fun h => h)).trans hb0
  have hBlt : B < W0.heap.size := lt_of_block hb0
  clear hb0
  have HBC : Hid (∀ W, Quiet0 W0 W → W.cell? ⟨B, 0, none⟩ = some (.int .i64 k)) := fun W h => by rw [cell_of_row _ _ _ _ _ (0, 0) (HB0.out W h)]; rfl
  have HBF : Hid (∀ W, Fr (fun j => W0.heap.size ≤ j) W0 W → W.cell? ⟨B, 0, none⟩ = some (.int .i64 k)) := fun W h => (h.cellb hBlt (fun hh => by have h2 : W0.heap.size ≤ B := hh; omega)).trans (HBC.out _ (Quiet0.refl _))
  have hnk1 : ¬ k < 1 := by omega
  have hnk2 : ¬ 10 < k := by omega
  clear hBlt
  go_enter Tryz.func27, Tryz.ntmps27
  go_upto_region 3 with fail
  change Code.wp _ _ _ _ (w.alloc (.cells #[.int .i64 k, .string nm, .int .i64 n, .int .i64 tk, .int .i64 tn, .slice o1 l1 c1, .slice o2 l2 c2, .int .i64 fr, .int .i64 en] 29))
  rw [← hW0, ← hB]
  clear hW0 hB
  go_cut [3] (fun t wx => ∃ sb : Nat, t = .pointer (some ⟨sb, 0, none⟩) ∧ wx.heap[sb]? = some (.cells #[.bool sn, .bool st, .int .i64 le, .int .i64 mo, .int .i64 tp] 79 (0, 0)) ∧ Quiet0 W0 wx)
  case first =>
    clear HRES0 HNAME HSAME HRIGHT HVARS
    have HFR := Fr.refl (fun j => W0.heap.size ≤ j) W0
    have a0 := HBF.out _ HFR
    go_region_held3 (fun w' => w'.cell? ⟨B, 0, none⟩ = some (.int .i64 k))
      (((refine HBF.out _ ?_); (repeat (first | with_reducible exact HFR | with_reducible exact Quiet0.fr hqc | with_reducible exact Fr.refl _ _ | with_reducible refine Fr.trans ?_ (Fr.alloc _ _ _) | with_reducible refine Fr.trans ?_ (Fr.drew _ _) | ((with_reducible refine Fr.trans ?_ (Fr.setCell _ _ _ _ ?hsd)); (case hsd => (simp <;> omega))) | fail))))
      (first
        | (go_at_call 49; (with_reducible refine Calls.mono (HSH.out _) ?_); rintro e wx ⟨rfl, hqx⟩; (try (refine box5_use (b := W0.heap.size) (t := 79) (a0 := .bool false) (a1 := .bool false) (a2 := .int .i64 0) (a3 := .int .i64 0) (a4 := .int .i64 0) (blk_after hqx ?hbk) ?_; (case hbk => exact blk_new _ _ _ _ rfl); intro f0 f1 f2 f3 f4 y0 y1 y2 y3 y4 hzz)); (refine with_frq (S := fun j => W0.heap.size ≤ j) (w0 := W0) ?hfr hqx ?_); (case hfr => (repeat (first | with_reducible exact HFR | with_reducible exact Quiet0.fr hqc | with_reducible exact Fr.refl _ _ | with_reducible refine Fr.trans ?_ (Fr.alloc _ _ _) | with_reducible refine Fr.trans ?_ (Fr.drew _ _) | ((with_reducible refine Fr.trans ?_ (Fr.setCell _ _ _ _ ?hsd)); (case hsd => (simp <;> omega))) | fail))); intro HFR))
    all_goals
      clear hix HSH a0 HBC HBF HB0
      generalize shapeCells = sc at *
      go_step
      go_step
      go_meet
      refine ⟨_, rfl, ?hbb, ?hqq⟩
      case hbb =>
        first
        | with_reducible exact heap_alloc_new _ _
        | with_reducible exact set5_block hzz
      case hqq =>
        unfold Quiet0
        have h0 : Fr (fun _ => False) W0 wx := HFR.mono (fun i hi h => by have h2 : W0.heap.size ≤ i := h; omega)
        first
        | with_reducible exact Fr.trans h0 (Fr.alloc _ _ _)
        | (with_reducible refine Fr.trans' (T := fun j => j = W0.heap.size) h0 ?_ (fun i hi e => by omega)
           with_reducible exact set5_fr _ _ _ _ _ _ _)
  case rest =>
    rename World => wx
    obtain ⟨sb, rfl, hsb, hqx⟩ := hcut
    have HSB : Hid (∀ W, Quiet0 wx W → W.heap[sb]? = some (.cells #[.bool sn, .bool st, .int .i64 le, .int .i64 mo, .int .i64 tp] 79 (0, 0))) := fun W h => (h.block _ (lt_of_block hsb) (fun h => h)).trans hsb
    have HQX := Lib.hid hqx
    have HRES := HRES0
    clear HBC HBF HSH hix HRES0 hsb hqx
    obtain ⟨b0, b1, b2, b3, b4, b5, b6, b7, b8⟩ := cells9_block (h := ⟨k, nm, n, tk, tn, tp0, fr, en⟩) (HB0.out _ HQX.out)
    obtain ⟨s0, s1, s2, s3, s4⟩ := cells5 (HSB.out _ (Quiet0.refl wx))
    generalize sameT tk tn tp0 0 0 .nil = sm at *
    generalize rightT tk tn tp0 = rt at *
    generalize Fo.vars [] (.cons tk tn tp0 .nil) = L at *
    unfold tyv at HSAME HRIGHT
    cases sn
    · cases hbn : nm.toList.isEmpty
      · have e2 : ¬ nm.toList = [] := by simpa using hbn
        have e3 : nm.toList.isEmpty = false := hbn
        rw [hbn] at HRES
        clear hbn
        have HX1 := Lib.hid (Quiet0.refl wx)
        cases st
        · go_wp2_with fail
          refine (HSAME.out _ (HQ0.out.trans HQX.out)).mono ?_; rintro e w5 ⟨rfl, hq5⟩
          have HF := Lib.hid ((HQ0.out.trans HQX.out).trans hq5)
          have HF0 := Lib.hid (HQX.out.trans hq5)
          have HF1 := Lib.hid (HX1.out.trans hq5)
          clear hq5
          clear b0 b1 b2 b3 b4 b5 b6 b7 b8 s0 s1 s2 s3 s4
          obtain ⟨b0, b1, b2, b3, b4, b5, b6, b7, b8⟩ := cells9_block (h := ⟨k, nm, n, tk, tn, tp0, fr, en⟩) (HB0.out _ HF0.out)
          obtain ⟨s0, s1, s2, s3, s4⟩ := cells5 (HSB.out _ HF1.out)
          change Hid (res = (false && sm && decide (0 ≤ n) && decide (n ≤ tp) && decide (le ≤ (l2 : Int)) && decide ((l2 : Int) ≤ mo))) at HRES
          generalize sm = bt at *
          go_upto_region 11 with fail
          go_wp2_with fail
          all_goals first
          | (exfalso; omega)
          | (go_ret; exact ⟨by rw [HRES.out]; simp <;> omega, HF.out⟩)
        · go_wp2_with fail
          refine (HSAME.out _ (HQ0.out.trans HQX.out)).mono ?_; rintro e w3 ⟨rfl, hq3⟩
          have HE0 := Lib.hid (HQX.out.trans hq3)
          have HE1 := Lib.hid (HX1.out.trans hq3)
          clear hq3 b0 b1 b2 b3 b4 b5 b6 b7 b8 s0 s1 s2 s3 s4
          obtain ⟨b0, b1, b2, b3, b4, b5, b6, b7, b8⟩ := cells9_block (h := ⟨k, nm, n, tk, tn, tp0, fr, en⟩) (HB0.out _ HE0.out)
          obtain ⟨s0, s1, s2, s3, s4⟩ := cells5 (HSB.out _ HE1.out)
          go_wp2_with fail
          refine (HRIGHT.out _ (HQ0.out.trans HE0.out)).mono ?_; rintro e w5 ⟨rfl, hq5⟩
          have HF := Lib.hid ((HQ0.out.trans HE0.out).trans hq5)
          have HF0 := Lib.hid (HE0.out.trans hq5)
          have HF1 := Lib.hid (HE1.out.trans hq5)
          clear hq5
          clear b0 b1 b2 b3 b4 b5 b6 b7 b8 s0 s1 s2 s3 s4
          obtain ⟨b0, b1, b2, b3, b4, b5, b6, b7, b8⟩ := cells9_block (h := ⟨k, nm, n, tk, tn, tp0, fr, en⟩) (HB0.out _ HF0.out)
          obtain ⟨s0, s1, s2, s3, s4⟩ := cells5 (HSB.out _ HF1.out)
          cases rt
          · change Hid (res = (false && (false && L.isEmpty) && decide (0 ≤ n) && decide (n ≤ tp) && decide (le ≤ (l2 : Int)) && decide ((l2 : Int) ≤ mo))) at HRES
            go_upto_region 11 with fail
            go_wp2_with fail
            all_goals first
            | (exfalso; omega)
            | (go_ret; exact ⟨by rw [HRES.out]; simp <;> omega, HF.out⟩)
          · change Hid (res = (false && (true && L.isEmpty) && decide (0 ≤ n) && decide (n ≤ tp) && decide (le ≤ (l2 : Int)) && decide ((l2 : Int) ≤ mo))) at HRES
            obtain ⟨W6, hW6⟩ : ∃ W6, W6 = w5.alloc (.cells #[.int .i64 tk, .int .i64 tn, .slice o1 l1 c1] 24) := ⟨_, rfl⟩
            obtain ⟨vb, hvb⟩ : ∃ vb, vb = w5.heap.size := ⟨_, rfl⟩
            have hb6 : W6.heap[vb]? = some (.cells #[.int .i64 tk, .int .i64 tn, .slice o1 l1 c1] 24 (0, 0)) := by rw [hW6, hvb]; exact heap_alloc_new _ _
            have HQ6 : Hid (Quiet0 w5 W6) := by rw [hW6]; exact Quiet0.alloc _ _
            have HVC := Lib.hid (HVARS.out W6 vb (HF.out.trans HQ6.out) hb6)
            rw [hW6, hvb] at HVC
            clear hb6 hW6 hvb HQ6
            go_wp2_with fail
            refine HVC.out.mono ?_; rintro e w7 ⟨va, vc, rfl, hq7⟩
            replace HF := Lib.hid ((HF.out.trans (Quiet0.alloc _ _)).trans hq7)
            have HG0 := Lib.hid ((HF0.out.trans (Quiet0.alloc _ _)).trans hq7)
            have HG1 := Lib.hid ((HF1.out.trans (Quiet0.alloc _ _)).trans hq7)
            clear hq7
            clear b0 b1 b2 b3 b4 b5 b6 b7 b8 s0 s1 s2 s3 s4
            obtain ⟨b0, b1, b2, b3, b4, b5, b6, b7, b8⟩ := cells9_block (h := ⟨k, nm, n, tk, tn, tp0, fr, en⟩) (HB0.out _ HG0.out)
            obtain ⟨s0, s1, s2, s3, s4⟩ := cells5 (HSB.out _ HG1.out)
            cases L
            · change Hid (res = (false && true && decide (0 ≤ n) && decide (n ≤ tp) && decide (le ≤ (l2 : Int)) && decide ((l2 : Int) ≤ mo))) at HRES
              have hl0 : ((([] : List Int).length : Nat) : Int) = 0 := rfl
              go_upto_region 11 with fail
              go_wp2_with fail
              all_goals first
              | (exfalso; omega)
              | (go_ret; exact ⟨by rw [HRES.out]; simp <;> omega, HF.out⟩)
            · rename_i x0 r0
              change Hid (res = (false && false && decide (0 ≤ n) && decide (n ≤ tp) && decide (le ≤ (l2 : Int)) && decide ((l2 : Int) ≤ mo))) at HRES
              have hl0 : ¬ (((x0 :: r0).length : Nat) : Int) = 0 := by simp; omega
              generalize (((x0 :: r0).length : Nat)) = ln at *
              go_upto_region 11 with fail
              go_wp2_with fail
              all_goals first
              | (exfalso; omega)
              | (go_ret; exact ⟨by rw [HRES.out]; simp <;> omega, HF.out⟩)
      · have e2 : nm.toList = [] := by simpa using hbn
        have e3 : nm.toList.isEmpty = true := hbn
        rw [hbn] at HRES
        clear hbn
        have HX1 := Lib.hid (Quiet0.refl wx)
        cases st
        · go_wp2_with fail
          refine (HSAME.out _ (HQ0.out.trans HQX.out)).mono ?_; rintro e w5 ⟨rfl, hq5⟩
          have HF := Lib.hid ((HQ0.out.trans HQX.out).trans hq5)
          have HF0 := Lib.hid (HQX.out.trans hq5)
          have HF1 := Lib.hid (HX1.out.trans hq5)
          clear hq5
          clear b0 b1 b2 b3 b4 b5 b6 b7 b8 s0 s1 s2 s3 s4
          obtain ⟨b0, b1, b2, b3, b4, b5, b6, b7, b8⟩ := cells9_block (h := ⟨k, nm, n, tk, tn, tp0, fr, en⟩) (HB0.out _ HF0.out)
          obtain ⟨s0, s1, s2, s3, s4⟩ := cells5 (HSB.out _ HF1.out)
          change Hid (res = (true && sm && decide (0 ≤ n) && decide (n ≤ tp) && decide (le ≤ (l2 : Int)) && decide ((l2 : Int) ≤ mo))) at HRES
          generalize sm = bt at *
          go_upto_region 11 with fail
          cases bt
          · go_wp2_with fail
            all_goals first
            | (exfalso; omega)
            | (go_ret; exact ⟨by rw [HRES.out]; simp <;> omega, HF.out⟩)
          · by_cases g1 : 0 ≤ n
            · by_cases g2 : n ≤ tp
              · by_cases g3 : le ≤ (l2 : Int)
                · by_cases g4 : (l2 : Int) ≤ mo
                  · go_wp2_with fail
                    all_goals first
                    | (exfalso; omega)
                    | (go_ret; exact ⟨by rw [HRES.out]; simp [g1, g2, g3, g4] <;> omega, HF.out⟩)
                  · have g4' : mo < (l2 : Int) := by omega
                    go_wp2_with fail
                    all_goals first
                    | (exfalso; omega)
                    | (go_ret; exact ⟨by rw [HRES.out]; simp [g1, g2, g3, g4] <;> omega, HF.out⟩)
                · have g3' : (l2 : Int) < le := by omega
                  go_wp2_with fail
                  all_goals first
                  | (exfalso; omega)
                  | (go_ret; exact ⟨by rw [HRES.out]; simp [g3] <;> omega, HF.out⟩)
              · have g2' : tp < n := by omega
                go_wp2_with fail
                all_goals first
                | (exfalso; omega)
                | (go_ret; exact ⟨by rw [HRES.out]; simp [g2] <;> omega, HF.out⟩)
            · have g1' : n < 0 := by omega
              go_wp2_with fail
              all_goals first
              | (exfalso; omega)
              | (go_ret; exact ⟨by rw [HRES.out]; simp [g1] <;> omega, HF.out⟩)
        · go_wp2_with fail
          refine (HSAME.out _ (HQ0.out.trans HQX.out)).mono ?_; rintro e w3 ⟨rfl, hq3⟩
          have HE0 := Lib.hid (HQX.out.trans hq3)
          have HE1 := Lib.hid (HX1.out.trans hq3)
          clear hq3 b0 b1 b2 b3 b4 b5 b6 b7 b8 s0 s1 s2 s3 s4
          obtain ⟨b0, b1, b2, b3, b4, b5, b6, b7, b8⟩ := cells9_block (h := ⟨k, nm, n, tk, tn, tp0, fr, en⟩) (HB0.out _ HE0.out)
          obtain ⟨s0, s1, s2, s3, s4⟩ := cells5 (HSB.out _ HE1.out)
          go_wp2_with fail
          refine (HRIGHT.out _ (HQ0.out.trans HE0.out)).mono ?_; rintro e w5 ⟨rfl, hq5⟩
          have HF := Lib.hid ((HQ0.out.trans HE0.out).trans hq5)
          have HF0 := Lib.hid (HE0.out.trans hq5)
          have HF1 := Lib.hid (HE1.out.trans hq5)
          clear hq5
          clear b0 b1 b2 b3 b4 b5 b6 b7 b8 s0 s1 s2 s3 s4
          obtain ⟨b0, b1, b2, b3, b4, b5, b6, b7, b8⟩ := cells9_block (h := ⟨k, nm, n, tk, tn, tp0, fr, en⟩) (HB0.out _ HF0.out)
          obtain ⟨s0, s1, s2, s3, s4⟩ := cells5 (HSB.out _ HF1.out)
          cases rt
          · change Hid (res = (true && (false && L.isEmpty) && decide (0 ≤ n) && decide (n ≤ tp) && decide (le ≤ (l2 : Int)) && decide ((l2 : Int) ≤ mo))) at HRES
            go_upto_region 11 with fail
            go_wp2_with fail
            all_goals first
            | (exfalso; omega)
            | (go_ret; exact ⟨by rw [HRES.out]; simp <;> omega, HF.out⟩)
          · change Hid (res = (true && (true && L.isEmpty) && decide (0 ≤ n) && decide (n ≤ tp) && decide (le ≤ (l2 : Int)) && decide ((l2 : Int) ≤ mo))) at HRES
            obtain ⟨W6, hW6⟩ : ∃ W6, W6 = w5.alloc (.cells #[.int .i64 tk, .int .i64 tn, .slice o1 l1 c1] 24) := ⟨_, rfl⟩
            obtain ⟨vb, hvb⟩ : ∃ vb, vb = w5.heap.size := ⟨_, rfl⟩
            have hb6 : W6.heap[vb]? = some (.cells #[.int .i64 tk, .int .i64 tn, .slice o1 l1 c1] 24 (0, 0)) := by rw [hW6, hvb]; exact heap_alloc_new _ _
            have HQ6 : Hid (Quiet0 w5 W6) := by rw [hW6]; exact Quiet0.alloc _ _
            have HVC := Lib.hid (HVARS.out W6 vb (HF.out.trans HQ6.out) hb6)
            rw [hW6, hvb] at HVC
            clear hb6 hW6 hvb HQ6
            go_wp2_with fail
            refine HVC.out.mono ?_; rintro e w7 ⟨va, vc, rfl, hq7⟩
            replace HF := Lib.hid ((HF.out.trans (Quiet0.alloc _ _)).trans hq7)
            have HG0 := Lib.hid ((HF0.out.trans (Quiet0.alloc _ _)).trans hq7)
            have HG1 := Lib.hid ((HF1.out.trans (Quiet0.alloc _ _)).trans hq7)
            clear hq7
            clear b0 b1 b2 b3 b4 b5 b6 b7 b8 s0 s1 s2 s3 s4
            obtain ⟨b0, b1, b2, b3, b4, b5, b6, b7, b8⟩ := cells9_block (h := ⟨k, nm, n, tk, tn, tp0, fr, en⟩) (HB0.out _ HG0.out)
            obtain ⟨s0, s1, s2, s3, s4⟩ := cells5 (HSB.out _ HG1.out)
            cases L
            · change Hid (res = (true && true && decide (0 ≤ n) && decide (n ≤ tp) && decide (le ≤ (l2 : Int)) && decide ((l2 : Int) ≤ mo))) at HRES
              have hl0 : ((([] : List Int).length : Nat) : Int) = 0 := rfl
              go_upto_region 11 with fail
              by_cases g1 : 0 ≤ n
              · by_cases g2 : n ≤ tp
                · by_cases g3 : le ≤ (l2 : Int)
                  · by_cases g4 : (l2 : Int) ≤ mo
                    · go_wp2_with fail
                      all_goals first
                      | (exfalso; omega)
                      | (go_ret; exact ⟨by rw [HRES.out]; simp [g1, g2, g3, g4] <;> omega, HF.out⟩)
                    · have g4' : mo < (l2 : Int) := by omega
                      go_wp2_with fail
                      all_goals first
                      | (exfalso; omega)
                      | (go_ret; exact ⟨by rw [HRES.out]; simp [g1, g2, g3, g4] <;> omega, HF.out⟩)
                  · have g3' : (l2 : Int) < le := by omega
                    go_wp2_with fail
                    all_goals first
                    | (exfalso; omega)
                    | (go_ret; exact ⟨by rw [HRES.out]; simp [g3] <;> omega, HF.out⟩)
                · have g2' : tp < n := by omega
                  go_wp2_with fail
                  all_goals first
                  | (exfalso; omega)
                  | (go_ret; exact ⟨by rw [HRES.out]; simp [g2] <;> omega, HF.out⟩)
              · have g1' : n < 0 := by omega
                go_wp2_with fail
                all_goals first
                | (exfalso; omega)
                | (go_ret; exact ⟨by rw [HRES.out]; simp [g1] <;> omega, HF.out⟩)
            · rename_i x0 r0
              change Hid (res = (true && false && decide (0 ≤ n) && decide (n ≤ tp) && decide (le ≤ (l2 : Int)) && decide ((l2 : Int) ≤ mo))) at HRES
              have hl0 : ¬ (((x0 :: r0).length : Nat) : Int) = 0 := by simp; omega
              generalize (((x0 :: r0).length : Nat)) = ln at *
              go_upto_region 11 with fail
              go_wp2_with fail
              all_goals first
              | (exfalso; omega)
              | (go_ret; exact ⟨by rw [HRES.out]; simp <;> omega, HF.out⟩)
    · go_wp2_with fail
      refine (HNAME.out _ (HQ0.out.trans HQX.out)).mono ?_; rintro e w4 ⟨rfl, hq4⟩
      have HX0 := Lib.hid (HQX.out.trans hq4)
      have HX1 := Lib.hid hq4
      clear hq4
      clear b0 b1 b2 b3 b4 b5 b6 b7 b8 s0 s1 s2 s3 s4
      obtain ⟨b0, b1, b2, b3, b4, b5, b6, b7, b8⟩ := cells9_block (h := ⟨k, nm, n, tk, tn, tp0, fr, en⟩) (HB0.out _ HX0.out)
      obtain ⟨s0, s1, s2, s3, s4⟩ := cells5 (HSB.out _ HX1.out)
      generalize Lx.nameB nm.data.toList = bn at *
      cases st
      · go_wp2_with fail
        refine (HSAME.out _ (HQ0.out.trans HX0.out)).mono ?_; rintro e w5 ⟨rfl, hq5⟩
        have HF := Lib.hid ((HQ0.out.trans HX0.out).trans hq5)
        have HF0 := Lib.hid (HX0.out.trans hq5)
        have HF1 := Lib.hid (HX1.out.trans hq5)
        clear hq5
        clear b0 b1 b2 b3 b4 b5 b6 b7 b8 s0 s1 s2 s3 s4
        obtain ⟨b0, b1, b2, b3, b4, b5, b6, b7, b8⟩ := cells9_block (h := ⟨k, nm, n, tk, tn, tp0, fr, en⟩) (HB0.out _ HF0.out)
        obtain ⟨s0, s1, s2, s3, s4⟩ := cells5 (HSB.out _ HF1.out)
        change Hid (res = (bn && sm && decide (0 ≤ n) && decide (n ≤ tp) && decide (le ≤ (l2 : Int)) && decide ((l2 : Int) ≤ mo))) at HRES
        generalize sm = bt at *
        go_upto_region 11 with fail
        cases bn
        · go_wp2_with fail
          all_goals first
          | (exfalso; omega)
          | (go_ret; exact ⟨by rw [HRES.out]; simp <;> omega, HF.out⟩)
        · cases bt
          · go_wp2_with fail
            all_goals first
            | (exfalso; omega)
            | (go_ret; exact ⟨by rw [HRES.out]; simp <;> omega, HF.out⟩)
          · by_cases g1 : 0 ≤ n
            · by_cases g2 : n ≤ tp
              · by_cases g3 : le ≤ (l2 : Int)
                · by_cases g4 : (l2 : Int) ≤ mo
                  · go_wp2_with fail
                    all_goals first
                    | (exfalso; omega)
                    | (go_ret; exact ⟨by rw [HRES.out]; simp [g1, g2, g3, g4] <;> omega, HF.out⟩)
                  · have g4' : mo < (l2 : Int) := by omega
                    go_wp2_with fail
                    all_goals first
                    | (exfalso; omega)
                    | (go_ret; exact ⟨by rw [HRES.out]; simp [g1, g2, g3, g4] <;> omega, HF.out⟩)
                · have g3' : (l2 : Int) < le := by omega
                  go_wp2_with fail
                  all_goals first
                  | (exfalso; omega)
                  | (go_ret; exact ⟨by rw [HRES.out]; simp [g3] <;> omega, HF.out⟩)
              · have g2' : tp < n := by omega
                go_wp2_with fail
                all_goals first
                | (exfalso; omega)
                | (go_ret; exact ⟨by rw [HRES.out]; simp [g2] <;> omega, HF.out⟩)
            · have g1' : n < 0 := by omega
              go_wp2_with fail
              all_goals first
              | (exfalso; omega)
              | (go_ret; exact ⟨by rw [HRES.out]; simp [g1] <;> omega, HF.out⟩)
      · go_wp2_with fail
        refine (HSAME.out _ (HQ0.out.trans HX0.out)).mono ?_; rintro e w3 ⟨rfl, hq3⟩
        have HE0 := Lib.hid (HX0.out.trans hq3)
        have HE1 := Lib.hid (HX1.out.trans hq3)
        clear hq3 b0 b1 b2 b3 b4 b5 b6 b7 b8 s0 s1 s2 s3 s4
        obtain ⟨b0, b1, b2, b3, b4, b5, b6, b7, b8⟩ := cells9_block (h := ⟨k, nm, n, tk, tn, tp0, fr, en⟩) (HB0.out _ HE0.out)
        obtain ⟨s0, s1, s2, s3, s4⟩ := cells5 (HSB.out _ HE1.out)
        go_wp2_with fail
        refine (HRIGHT.out _ (HQ0.out.trans HE0.out)).mono ?_; rintro e w5 ⟨rfl, hq5⟩
        have HF := Lib.hid ((HQ0.out.trans HE0.out).trans hq5)
        have HF0 := Lib.hid (HE0.out.trans hq5)
        have HF1 := Lib.hid (HE1.out.trans hq5)
        clear hq5
        clear b0 b1 b2 b3 b4 b5 b6 b7 b8 s0 s1 s2 s3 s4
        obtain ⟨b0, b1, b2, b3, b4, b5, b6, b7, b8⟩ := cells9_block (h := ⟨k, nm, n, tk, tn, tp0, fr, en⟩) (HB0.out _ HF0.out)
        obtain ⟨s0, s1, s2, s3, s4⟩ := cells5 (HSB.out _ HF1.out)
        cases rt
        · change Hid (res = (bn && (false && L.isEmpty) && decide (0 ≤ n) && decide (n ≤ tp) && decide (le ≤ (l2 : Int)) && decide ((l2 : Int) ≤ mo))) at HRES
          go_upto_region 11 with fail
          cases bn
          · go_wp2_with fail
            all_goals first
            | (exfalso; omega)
            | (go_ret; exact ⟨by rw [HRES.out]; simp <;> omega, HF.out⟩)
          · go_wp2_with fail
            all_goals first
            | (exfalso; omega)
            | (go_ret; exact ⟨by rw [HRES.out]; simp <;> omega, HF.out⟩)
        · change Hid (res = (bn && (true && L.isEmpty) && decide (0 ≤ n) && decide (n ≤ tp) && decide (le ≤ (l2 : Int)) && decide ((l2 : Int) ≤ mo))) at HRES
          obtain ⟨W6, hW6⟩ : ∃ W6, W6 = w5.alloc (.cells #[.int .i64 tk, .int .i64 tn, .slice o1 l1 c1] 24) := ⟨_, rfl⟩
          obtain ⟨vb, hvb⟩ : ∃ vb, vb = w5.heap.size := ⟨_, rfl⟩
          have hb6 : W6.heap[vb]? = some (.cells #[.int .i64 tk, .int .i64 tn, .slice o1 l1 c1] 24 (0, 0)) := by rw [hW6, hvb]; exact heap_alloc_new _ _
          have HQ6 : Hid (Quiet0 w5 W6) := by rw [hW6]; exact Quiet0.alloc _ _
          have HVC := Lib.hid (HVARS.out W6 vb (HF.out.trans HQ6.out) hb6)
          rw [hW6, hvb] at HVC
          clear hb6 hW6 hvb HQ6
          go_wp2_with fail
          refine HVC.out.mono ?_; rintro e w7 ⟨va, vc, rfl, hq7⟩
          replace HF := Lib.hid ((HF.out.trans (Quiet0.alloc _ _)).trans hq7)
          have HG0 := Lib.hid ((HF0.out.trans (Quiet0.alloc _ _)).trans hq7)
          have HG1 := Lib.hid ((HF1.out.trans (Quiet0.alloc _ _)).trans hq7)
          clear hq7
          clear b0 b1 b2 b3 b4 b5 b6 b7 b8 s0 s1 s2 s3 s4
          obtain ⟨b0, b1, b2, b3, b4, b5, b6, b7, b8⟩ := cells9_block (h := ⟨k, nm, n, tk, tn, tp0, fr, en⟩) (HB0.out _ HG0.out)
          obtain ⟨s0, s1, s2, s3, s4⟩ := cells5 (HSB.out _ HG1.out)
          cases L
          · change Hid (res = (bn && true && decide (0 ≤ n) && decide (n ≤ tp) && decide (le ≤ (l2 : Int)) && decide ((l2 : Int) ≤ mo))) at HRES
            have hl0 : ((([] : List Int).length : Nat) : Int) = 0 := rfl
            go_upto_region 11 with fail
            cases bn
            · go_wp2_with fail
              all_goals first
              | (exfalso; omega)
              | (go_ret; exact ⟨by rw [HRES.out]; simp <;> omega, HF.out⟩)
            · by_cases g1 : 0 ≤ n
              · by_cases g2 : n ≤ tp
                · by_cases g3 : le ≤ (l2 : Int)
                  · by_cases g4 : (l2 : Int) ≤ mo
                    · go_wp2_with fail
                      all_goals first
                      | (exfalso; omega)
                      | (go_ret; exact ⟨by rw [HRES.out]; simp [g1, g2, g3, g4] <;> omega, HF.out⟩)
                    · have g4' : mo < (l2 : Int) := by omega
                      go_wp2_with fail
                      all_goals first
                      | (exfalso; omega)
                      | (go_ret; exact ⟨by rw [HRES.out]; simp [g1, g2, g3, g4] <;> omega, HF.out⟩)
                  · have g3' : (l2 : Int) < le := by omega
                    go_wp2_with fail
                    all_goals first
                    | (exfalso; omega)
                    | (go_ret; exact ⟨by rw [HRES.out]; simp [g3] <;> omega, HF.out⟩)
                · have g2' : tp < n := by omega
                  go_wp2_with fail
                  all_goals first
                  | (exfalso; omega)
                  | (go_ret; exact ⟨by rw [HRES.out]; simp [g2] <;> omega, HF.out⟩)
              · have g1' : n < 0 := by omega
                go_wp2_with fail
                all_goals first
                | (exfalso; omega)
                | (go_ret; exact ⟨by rw [HRES.out]; simp [g1] <;> omega, HF.out⟩)
          · rename_i x0 r0
            change Hid (res = (bn && false && decide (0 ≤ n) && decide (n ≤ tp) && decide (le ≤ (l2 : Int)) && decide ((l2 : Int) ≤ mo))) at HRES
            have hl0 : ¬ (((x0 :: r0).length : Nat) : Int) = 0 := by simp; omega
            generalize (((x0 :: r0).length : Nat)) = ln at *
            go_upto_region 11 with fail
            cases bn
            · go_wp2_with fail
              all_goals first
              | (exfalso; omega)
              | (go_ret; exact ⟨by rw [HRES.out]; simp <;> omega, HF.out⟩)
            · go_wp2_with fail
              all_goals first
              | (exfalso; omega)
              | (go_ret; exact ⟨by rw [HRES.out]; simp <;> omega, HF.out⟩)
end Go.Proofs.YtdlcakmjihfgfaaGreatDoor
end
section
/-
  term.plain of any head, and term.Right: a range over all terms. Conditions: the term lies in memory as told; there are few of them; the table of blanks holds what its initialiser lays.
-/
namespace Go.Proofs.YtdlcakmjihfgfaaGreatDoor
open Go.RowKit Go.Shelf

attribute [local go_sem] Oper.semAt_some
/-- what a head must be that plain is asked of -/
def GoodH (h : Nd) : Prop := h.nm.size ≤ 100000 ∧ h.tp.size ≤ 100000 ∧ wfI h.tn ∧ wfF h.tp
set_option maxHeartbeats 1000000 in
theorem soundT_any (h : Nd) (w : World) (R : Nat → Prop) (o1 : Option Addr) (l1 c1 : Nat) (o2 : Option Addr) (l2 c2 : Nat) (hs : SlcIn R w o1 l1 h.tp) (hg : GoodH h) (hl2 : l2 ≤ 9223372036854775807) (ht : Lx.Spaces w) :
    Calls Tryz.prog 27 #[tmv h o1 l1 c1 o2 l2 c2] w fun e w' => e = .returned (.bool (soundB h l2)) ∧ Quiet0 w w' := by
  obtain ⟨k, nm, n, tk, tn, tp0, fr, en⟩ := h
  obtain ⟨g1, g2, g3, g4⟩ := hg
  by_cases h1 : 1 ≤ k
  · by_cases h2 : k ≤ 10
    · exact sound_in k h1 h2 nm n tk tn tp0 fr en w o1 l1 c1 o2 l2 c2 hs.slc g1 g2 g3 g4 hl2 ht
    · have e : soundB ⟨k, nm, n, tk, tn, tp0, fr, en⟩ l2 = false := by unfold soundB; simp [h2]
      rw [e]
      have hk1 : ¬ k < 1 := by omega
      have hk2 : 10 < k := by omega
      have HQ := Lib.hid (Quiet0.alloc w (.cells #[.int .i64 k, .string nm, .int .i64 n, .int .i64 tk, .int .i64 tn, .slice o1 l1 c1, .slice o2 l2 c2, .int .i64 fr, .int .i64 en] 29))
      clear hs g1 g2 g3 g4 ht e
      unfold tmv
      go_enter Tryz.func27, Tryz.ntmps27
      go_wp2_with fail
      go_ret
      exact ⟨rfl, HQ.out⟩
  · have e : soundB ⟨k, nm, n, tk, tn, tp0, fr, en⟩ l2 = false := by unfold soundB; simp [h1]
    rw [e]
    have hk1 : k < 1 := by omega
    have HQ := Lib.hid (Quiet0.alloc w (.cells #[.int .i64 k, .string nm, .int .i64 n, .int .i64 tk, .int .i64 tn, .slice o1 l1 c1, .slice o2 l2 c2, .int .i64 fr, .int .i64 en] 29))
    clear hs g1 g2 g3 g4 ht e
    unfold tmv
    go_enter Tryz.func27, Tryz.ntmps27
    go_wp2_with fail
    go_ret
    exact ⟨rfl, HQ.out⟩
abbrev sndX (x : Nd × To) : Bool := soundB x.1 x.2.length
/-- between two rounds of Right -/
def RtI (rb : Nat) (w : World) (xs : List (Nd × To)) (i : Nat) (D : Nat → Prop) (W : World) : Prop :=
  ((∀ k, D k ↔ k = rb) ∧ W.heap[rb]? = some (.cells #[.bool false] 4 (0, 0)) ∧ Quiet0 w W) ∧ (xs.take i).all sndX = true
theorem RtI.fr {rb : Nat} {w : World} {xs : List (Nd × To)} {i : Nat} {D S : Nat → Prop} {W W' : World} (h : RtI rb w xs i D W) (hf : Fr S W W') (h1 : ¬ S rb) (h2 : ∀ k, k < w.heap.size → ¬ S k) : RtI rb w xs i D W' :=
  ⟨⟨h.1.1, (hf.block _ (lt_of_block h.1.2.1) h1).trans h.1.2.1, Fr.trans' h.1.2.2 hf (fun k hk hs => h2 k hk hs)⟩, h.2⟩
set_option maxHeartbeats 4000000 in
theorem rightTm_any (h : Nd) (ps : To) (w : World) (R : Nat → Prop) (o1 : Option Addr) (l1 c1 : Nat) (o2 : Option Addr) (l2 c2 : Nat) (hs1 : SlcIn R w o1 l1 h.tp) (hs : TSlc R w o2 l2 ps) (hz : ps.size ≤ 100000) (hg : allT GoodH (.cons h ps .nil)) (ht : Lx.Spaces w) :
    Calls Tryz.prog 13 #[tmv h o1 l1 c1 o2 l2 c2] w fun e w' => e = .returned (.bool ((To.cons h ps .nil).flat.all sndX)) ∧ Quiet0 w w' := by
  obtain ⟨xs, hxs⟩ : ∃ xs, (To.cons h ps .nil).flat = xs := ⟨_, rfl⟩
  rw [hxs]
  refine (callsIn_wide (n := 5)).1 ?_
  refine callsIn_of_wp_marks Tryz.func13 rfl trivial ?_ rfl
  simp only [Tryz.ntmps13, List.size_toArray, List.length_cons, List.length_nil, Nat.reduceAdd, Nat.reduceSub, Array.replicate_succ, Array.replicate_zero, List.push_toArray, List.append_toArray, List.nil_append, List.cons_append]
  have HC := fun W => (callsIn_wide (n := 4)).2 (all_call h o1 l1 c1 o2 l2 c2 W)
  have HT := Lib.hid ht
  have HG := Lib.hid (allT_flat _ hg)
  unfold tmv at HC ⊢
  gi_wp2_with (fail)
  refine ⟨trivial, (HC _).mono ?_⟩; rintro e W2' ⟨rfl, hW2⟩
  obtain ⟨W1, hW1⟩ : ∃ W1, W1 = ((w.alloc (.cells (cells9 h o1 l1 c1 o2 l2 c2) 29)).alloc (.cells #[.bool false] 4)) := ⟨_, rfl⟩
  have hz1 : W1.heap.size = w.heap.size + 1 + 1 := by rw [hW1]; simp
  have hq1 : Quiet0 w W1 := by rw [hW1]; exact (Quiet0.alloc _ _).trans (Quiet0.alloc _ _)
  have hb1 : W1.heap[w.heap.size + 1]? = some (.cells #[.bool false] 4 (0, 0)) := by
    rw [hW1]
    have := heap_alloc_new (w.alloc (.cells (cells9 h o1 l1 c1 o2 l2 c2) 29)) (.cells #[.bool false] 4)
    simpa using this
  have hW2' : W2' = W1.alloc (.cells (cells9 h o1 l1 c1 o2 l2 c2) 29) := by rw [hW1]; exact hW2
  have hq2 : Quiet0 w W2' := by rw [hW2']; exact hq1.trans (Quiet0.alloc _ _)
  have hb2 : W2'.heap[w.heap.size + 1]? = some (.cells #[.bool false] 4 (0, 0)) := by
    rw [hW2', Below.heap_alloc _ _ _ (by omega)]; exact hb1
  have htb : W2'.heap[W1.heap.size]? = some (.cells (cells9 h o1 l1 c1 o2 l2 c2) 29 (0, 0)) := by rw [hW2']; exact heap_alloc_new W1 _
  have hz2 : W2'.heap.size = w.heap.size + 3 := by rw [hW2']; simp; omega
  have hseq := all_seq (5 - 1) (fun k => k < w.heap.size ∨ k = W1.heap.size) h ps o1 l1 c1 o2 l2 c2 W1.heap.size W2' (fun k hk => by omega) htb (.inr rfl) ((hs1.mono (T := fun k => k < w.heap.size ∨ k = W1.heap.size) (fun k hk _ => .inl hk)).stay hq2) ((hs.mono (T := fun k => k < w.heap.size ∨ k = W1.heap.size) (fun k hk _ => .inl hk)).stay hq2) hz
  rw [hz1] at hseq
  rw [hxs] at hseq HG
  have HSEQ := Lib.hid hseq
  have HB2 := Lib.hid hb2
  have HQ2 := Lib.hid hq2
  clear hW1 hW2 hW2' hq1 hb1 hq2 hb2 htb hseq HC hxs hg ht
  gi_wp2_with (fail)
  refine wpIn_range_c (w := W2') rfl (enters_of Tryz.func47 (by kernel_rfl) rfl) HSEQ.out (fun k hk => by omega) (Fr.refl _ _) (fun i x va W he => encT_size he)
    (RtI (w.heap.size + 1) w xs)
    (fun i x a' D W => RtI (w.heap.size + 1) w xs i D W ∧ ∃ (xb : Nat) (t7 t8 : Value) (p1 : Option Addr) (m1 d1 : Nat) (p2 : Option Addr) (m2 d2 : Nat), W.heap[xb]? = some (.cells (cells9 x.1 p1 m1 d1 p2 m2 d2) 29 (0, 0)) ∧ xb ≠ W2'.heap.size + 1 ∧ SlcIn (fun k => k < w.heap.size ∨ k = w.heap.size + 1 + 1) W p1 m1 x.1.tp ∧ TSlc (fun k => k < w.heap.size ∨ k = w.heap.size + 1 + 1) W p2 m2 x.2 ∧ a' = { tmps := #[.agg #[.int .i64 h.k, .string h.nm, .int .i64 h.n, .int .i64 h.tk, .int .i64 h.tn, .slice o1 l1 c1, .slice o2 l2 c2, .int .i64 h.fr, .int .i64 h.en], .pointer (some ⟨w.heap.size, 0, none⟩), .pointer (some ⟨w.heap.size + 1, 0, none⟩), undef, .pointer (some ⟨xb, 0, none⟩), .agg #[.int .i64 h.k, .string h.nm, .int .i64 h.n, .int .i64 h.tk, .int .i64 h.tn, .slice o1 l1 c1, .slice o2 l2 c2, .int .i64 h.fr, .int .i64 h.en], .func (.func 47) #[] #[.pointer (some ⟨w.heap.size + 1 + 1, 0, none⟩)], t7, t8, undef, undef, undef], defers := [] })
    (fun c W => c = .ret ∧ W.heap[w.heap.size + 1]? = some (.cells #[.bool false] 4 (0, 0)) ∧ Quiet0 w W ∧ xs.all sndX = false) (fun k => k = w.heap.size + 1) ?own ?stay ?stayM ?stayX ?start ?assign ?body ?done ?stop
  case own =>
    rintro i D A ⟨⟨hd, hb, hq⟩, _⟩ k hk
    have e := (hd k).1 hk
    have hl := lt_of_block hb
    exact ⟨by omega, by omega, .inl (by omega)⟩
  case stay =>
    rintro i D A B hI hf
    exact hI.fr hf (fun h => h.2 ((hI.1.1 _).2 rfl)) (fun k hk h => by have := h.1; omega)
  case stayM =>
    rintro i x a' D A B ⟨hI, xb, t7, t8, p1, m1, d1, p2, m2, d2, hxb, hne, hp1, hp2, ha⟩ hf
    exact ⟨hI.fr hf (by omega) (fun k hk h => by omega), xb, t7, t8, p1, m1, d1, p2, m2, d2, blk_fr hf hne hxb, hne, hp1.fr hf (fun k _ h => ⟨h, by omega⟩), hp2.fr hf (fun k _ h => ⟨h, by omega⟩), ha⟩
  case stayX =>
    rintro c A B ⟨hc, hb, hq, hx⟩ hf
    exact ⟨hc, blk_fr hf (by omega) hb, hq.trans' hf (fun k hk h => by omega), hx⟩
  case start => exact ⟨⟨fun k => Iff.rfl, HB2.out, HQ2.out⟩, rfl⟩
  case assign =>
    rintro l i x va D W K hx ⟨p1, m1, d1, p2, m2, d2, rfl, hp1, hp2⟩ hI hWs hK
    unfold tmv
    have hq := Quiet0.alloc W (.cells (cells9 x.1 p1 m1 d1 p2 m2 d2) 29)
    have hnew := heap_alloc_new W (.cells (cells9 x.1 p1 m1 d1 p2 m2 d2) 29)
    have hne : W.heap.size ≠ W2'.heap.size + 1 := by omega
    have hI2 := hI.fr (S := fun _ => False) hq (fun h => h) (fun _ _ h => h)
    have hp1' := hp1.stay hq
    have hp2' := hp2.stay hq
    clear hI hWs
    gi_wp2
    exact hK _ _ ⟨hI2, W.heap.size, .int .i64 (i : Int), tmv x.1 p1 m1 d1 p2 m2 d2, p1, m1, d1, p2, m2, d2, hnew, hne, hp1', hp2', by simp [tmv]⟩ hq
  case body =>
    rintro l i x a' D W hx ⟨hI, xb, t7, t8, p1, m1, d1, p2, m2, d2, hxb, hne, hp1, hp2, rfl⟩ hW
    obtain ⟨a0, a1, a2, a3, a4, a5, a6, a7, a8⟩ := cells9_block hxb
    have hxm := HG.out x (List.mem_of_getElem? hx)
    have hl2 : m2 ≤ 9223372036854775807 := by have := hp2.2.1; unfold maxLen at this; omega
    have hCS := (callsIn_wide (n := 5 - 1 - 1)).2 (soundT_any x.1 W _ p1 m1 d1 p2 m2 d2 hp1 hxm.1 hl2 (HT.out.stay hI.1.2.2))
    have hlen : m2 = x.2.length := hp2.1
    rw [hlen] at hCS
    unfold tmv at hCS
    cases hb : soundB x.1 x.2.length
    · rw [hb] at hCS
      gi_wp2_with (fail)
      refine ⟨trivial, (CallsIn.inRound l hCS).mono ?_⟩; rintro e w1 ⟨rfl, hq1⟩
      have hI1 := hI.fr (S := fun _ => False) hq1 (fun h => h) (fun _ _ h => h)
      have cc := cell_of_one hI1.1.2.1
      have zz := free_of_one hI1.1.2.1
      have hal : xs.all sndX = false := by
        rw [List.all_eq_false]; exact ⟨x, List.mem_of_getElem? hx, by show ¬ soundB x.1 x.2.length = true; rw [hb]; simp⟩
      gi_wp2
      have hfs := Fr.setCell (fun k => k = w.heap.size + 1) w1 ⟨w.heap.size + 1, 0, none⟩ (.bool false) rfl
      exact ⟨⟨rfl, one_setCell hI1.1.2.1, hI1.1.2.2.trans' hfs (fun k hk e => by omega), hal⟩, Fr.trans hq1.fr (hfs.mono (fun k _ e => (hI.1.1 k).2 e))⟩
    · rw [hb] at hCS
      gi_wp2_with (fail)
      refine ⟨trivial, (CallsIn.inRound l hCS).mono ?_⟩; rintro e w1 ⟨rfl, hq1⟩
      have hI1 := hI.fr (S := fun _ => False) hq1 (fun h => h) (fun _ _ h => h)
      gi_wp2
      refine ⟨D, ⟨hI1.1, ?_⟩, hq1.fr, fun k hk => .inl hk⟩
      rw [List.take_add_one, hx, List.all_append, hI.2]
      simp [sndX, hb]
  case done =>
    rintro D W ⟨⟨hd, hb, hq⟩, hall⟩ hdef
    rw [List.take_length] at hall
    have cc := cell_of_one hb
    have zz := free_of_one hb
    gi_wp2
    have hne3 : W2'.heap.size ≠ w.heap.size + 1 := by omega
    have hd2 : (W.setCell ⟨w.heap.size + 1, 0, none⟩ (.bool true)).heap[W2'.heap.size]? = some (.deferred (some [])) := by
      rw [Below.heap_setCell _ _ _ _ (fun e => hne3 e)]; exact hdef
    refine ⟨by simp, .inl ⟨_, _, rfl, run_takeDeferred hd2, ?_⟩⟩
    have hfp := Fr.putObj (fun k => k = W2'.heap.size) (W.setCell ⟨w.heap.size + 1, 0, none⟩ (.bool true)) W2'.heap.size (.deferred none) rfl
    have cr := cell_of_one (blk_fr hfp (by omega) (one_setCell hb))
    refine ⟨_, by simp [results, Tryz.results13, go_sem, cr]; rfl, ?_, ?_⟩
    · rw [hall]
    · exact (hq.trans' (Fr.setCell (fun k => k = w.heap.size + 1) W ⟨w.heap.size + 1, 0, none⟩ (.bool true) rfl) (fun k hk e => by omega)).trans' hfp (fun k hk e => by omega)
  case stop =>
    rintro c W ⟨rfl, hb, hq, hx⟩ hdef
    gi_wp2
    refine ⟨by simp, .inl ⟨_, _, rfl, run_takeDeferred hdef, ?_⟩⟩
    have hfp := Fr.putObj (fun k => k = W2'.heap.size) W W2'.heap.size (.deferred none) rfl
    have cr := cell_of_one (blk_fr hfp (by omega) hb)
    refine ⟨_, by simp [results, Tryz.results13, go_sem, cr]; rfl, ?_, ?_⟩
    · rw [hx]
    · exact hq.trans' hfp (fun k hk e => by omega)
end Go.Proofs.YtdlcakmjihfgfaaGreatDoor
end
section
/-
  span.Within. Conditions: the spans lie in memory as told; there are few.
-/
namespace Go.Proofs.YtdlcakmjihfgfaaGreatDoor
open Go.RowKit Go.Shelf SpanPlain

def inP (s t : Sp) : Bool := decide (t.1 ≤ s.1) && decide (s.2 ≤ t.2)
def outP (lb : List Sp) (s : Sp) : Bool := !lb.any (inP s)
theorem inC_any (s : Sp) (b : Nat) (t : Sp) (w : World) (h0 : w.cell? ⟨b, 0, none⟩ = some (.int .i64 s.1)) (h1 : w.cell? ⟨b, 1, none⟩ = some (.int .i64 s.2)) : Calls Tryz.prog 31 #[spv t, .pointer (some ⟨b, 0, none⟩)] w fun e w' => e = .returned (.bool (inP s t)) ∧ Quiet0 w w' := by
  obtain ⟨x, y⟩ := t
  obtain ⟨u, v⟩ := s
  have hb := World.block_lt_of_cell? w _ h0
  have hb' : b < w.heap.size := hb
  have HQ := Lib.hid (Quiet0.alloc w (.cells #[.int .i64 x, .int .i64 y] 27))
  have hc2 : (w.alloc (.cells #[.int .i64 x, .int .i64 y] 27)).cell? ⟨b, 0, none⟩ = some (.int .i64 u) := (Quiet0.alloc w _).at h0
  have hc3 : (w.alloc (.cells #[.int .i64 x, .int .i64 y] 27)).cell? ⟨b, 1, none⟩ = some (.int .i64 v) := (Quiet0.alloc w _).at h1
  unfold inP
  go_enter Tryz.func31, Tryz.ntmps31
  by_cases k1 : x ≤ u
  · go_wp2_with fail
    all_goals (go_ret; exact ⟨by first | (simp_all; done) | (simp_all; omega), HQ.out⟩)
  · go_wp2_with fail
    all_goals (go_ret; exact ⟨by first | (simp_all; done) | (simp_all; omega), HQ.out⟩)
theorem outC_any (s : Sp) (b : Nat) (lb : List Sp) (o : Option Addr) (cap : Nat) (R : Nat → Prop) (w : World) (hc : w.cell? ⟨b, 0, none⟩ = some (.slice o lb.length cap)) (hs : SpAt R w o lb) (hz : lb.length ≤ 1000000) :
    Calls Tryz.prog 30 #[spv s, .pointer (some ⟨b, 0, none⟩)] w fun e w' => e = .returned (.bool (outP lb s)) ∧ Quiet0 w w' := by
  obtain ⟨x, y⟩ := s
  obtain ⟨W0, hW0⟩ : ∃ W0, W0 = w.alloc (.cells #[.int .i64 x, .int .i64 y] 27) := ⟨_, rfl⟩
  have hq0 : Quiet0 w W0 := by rw [hW0]; exact Quiet0.alloc _ _
  have b0 : W0.cell? ⟨w.heap.size, 0, none⟩ = some (.int .i64 x) := by
    rw [hW0, cell_of_row _ _ _ _ _ (0, 0) (heap_alloc_new w _)]; rfl
  have b1 : W0.cell? ⟨w.heap.size, 1, none⟩ = some (.int .i64 y) := by
    rw [hW0, cell_of_row _ _ _ _ _ (0, 0) (heap_alloc_new w _)]; rfl
  have c0 : W0.cell? ⟨b, 0, none⟩ = some (.slice o lb.length cap) := hq0.at hc
  have HC := Lib.hid (containsS_any 31 #[.pointer (some ⟨w.heap.size, 0, none⟩)] (inP (x, y)) (enters_of Tryz.func31 (by kernel_rfl) rfl) lb o cap W0 R (hs.stay hq0) (fun t _ W hq => inC_any (x, y) w.heap.size t W (hq.at b0) (hq.at b1)) hz)
  have HQ0 := Lib.hid hq0
  unfold outP
  clear hs b0 b1 hq0 hc
  generalize lb.any (inP (x, y)) = r at *
  go_enter Tryz.func30, Tryz.ntmps30
  go_upto_region 1 with fail
  rw [← hW0]
  clear hW0
  go_wp2_with fail
  refine HC.out.mono ?_; rintro e w1 ⟨rfl, hq⟩
  go_wp2_with fail
  all_goals (go_ret; exact ⟨by simp_all, HQ0.out.trans hq⟩)
set_option maxHeartbeats 1000000 in
theorem withinS_any (a b : List Sp) (o : Option Addr) (cap : Nat) (p : Option Addr) (pc : Nat) (w : World) (R T : Nat → Prop) (hs : SpAt R w o a) (ht : SpAt T w p b) (hz : a.length ≤ 100000) (hz' : b.length ≤ 100000) (hma : (rmerge a).length ≤ 1000000) (hmb : (rmerge b).length ≤ 1000000) :
    Calls Tryz.prog 15 #[.slice o a.length cap, .slice p b.length pc] w fun e w' => e = .returned (.bool (!(rmerge a).any (outP (rmerge b)))) ∧ Quiet0 w w' := by
  obtain ⟨W0, hW0⟩ : ∃ W0, W0 = w.alloc (.cells #[.slice p b.length pc] 30) := ⟨_, rfl⟩
  have hq0 : Quiet0 w W0 := by rw [hW0]; exact Quiet0.alloc _ _
  have hb0 : W0.heap[w.heap.size]? = some (.cells #[.slice p b.length pc] 30 (0, 0)) := by rw [hW0]; exact heap_alloc_new w _
  have b0 : W0.cell? ⟨w.heap.size, 0, none⟩ = some (.slice p b.length pc) := by rw [cell_of_row _ _ _ _ _ (0, 0) hb0]; rfl
  have HM1 := Lib.hid (merge_any b p pc W0 T (ht.stay hq0) hz')
  have HM2 : Hid (∀ W, Quiet0 w W → Calls Tryz.prog 28 #[.slice o a.length cap] W (SpPost W (rmerge a))) := fun W hq => merge_any a o cap W R (hs.stay hq) hz
  have HQ0 := Lib.hid hq0
  have HB0 := Lib.hid hb0
  obtain ⟨r, hr⟩ : ∃ r, (rmerge a).any (outP (rmerge b)) = r := ⟨_, rfl⟩
  have HRR := Lib.hid hr
  rw [hr]
  clear hs ht hb0 hq0 hr
  go_enter Tryz.func15, Tryz.ntmps15
  have hsz0 : W0.heap.size = w.heap.size + 1 := by rw [hW0]; simp
  have HZ0 := Lib.hid hsz0
  go_upto_region 1 with fail
  rw [← hW0]
  clear hW0 hsz0
  go_wp2_with fail
  refine HM1.out.mono ?_; rintro e w1 ⟨v1, rfl, hr1, hq1⟩
  obtain ⟨o1, c1, rfl, _⟩ := hr1.form
  have hb1 := blk_after hq1 HB0.out
  have e0 : w1.cell? ⟨w.heap.size, 0, none⟩ = some (.slice p b.length pc) := by rw [cell_of_row _ _ _ _ _ (0, 0) hb1]; rfl
  have z0 : w1.frozen? ⟨w.heap.size, 0, none⟩ = false := by simp [World.frozen?, hb1]
  have HB1 := Lib.hid hb1
  have HR1 := Lib.hid hr1
  have HQ1 := Lib.hid hq1
  clear hb1 hr1 hq1 b0
  generalize hnb : w.heap.size = nb at *
  have HNB := Lib.hid hnb
  clear hnb
  go_upto_region 2 with fail
  obtain ⟨W2, hW2⟩ : ∃ W2, W2 = w1.setCell ⟨nb, 0, none⟩ (.slice o1 (rmerge b).length c1) := ⟨_, rfl⟩
  rw [← hW2]
  have hf2 : Fr (fun k => k = nb) w1 W2 := by rw [hW2]; exact Fr.setCell _ _ _ _ rfl
  have hb2 : W2.heap[nb]? = some (.cells #[.slice o1 (rmerge b).length c1] 30 (0, 0)) := by rw [hW2]; exact set_block HB1.out
  have hs2 : SpAt (fun _ => True) W2 o1 (rmerge b) := HR1.out.slc.fr hf2 (fun k _ h => ⟨trivial, fun e => by have h' : W0.heap.size ≤ k := h; have := HZ0.out; omega⟩)
  have hq2 : Quiet0 w W2 := Fr.trans' (HQ0.out.trans HQ1.out) hf2 (fun k hk e => by have := HNB.out; omega)
  have HB2 := Lib.hid hb2
  have HS2 := Lib.hid hs2
  have HQ2 := Lib.hid hq2
  clear hW2 hf2 hb2 hs2 hq2 e0 z0
  go_wp2_with fail
  refine (HM2.out _ HQ2.out).mono ?_; rintro e w3 ⟨v3, rfl, hr3, hq3⟩
  obtain ⟨o3, c3, rfl, _⟩ := hr3.form
  have c0 : w3.cell? ⟨nb, 0, none⟩ = some (.slice o1 (rmerge b).length c1) := by rw [cell_of_row _ _ _ _ _ (0, 0) (blk_after hq3 HB2.out)]; rfl
  have hC := (containsS_any 30 #[.pointer (some ⟨nb, 0, none⟩)] (outP (rmerge b)) (enters_of Tryz.func30 (by kernel_rfl) rfl) (rmerge a) o3 c3 w3 _ hr3.slc (fun t _ W hq => outC_any t nb (rmerge b) o1 c1 _ W (hq.at c0) (HS2.out.stay (hq3.trans hq)) hmb) hma)
  have HQ3 := Lib.hid (HQ2.out.trans hq3)
  rw [HRR.out] at hC
  have HC := Lib.hid hC
  clear hr3 hq3 c0 hC
  go_wp2_with fail
  refine HC.out.mono ?_; rintro e w4 ⟨rfl, hq4⟩
  go_wp2_with fail
  all_goals (go_ret; exact ⟨by simp_all, HQ3.out.trans hq4⟩)
end Go.Proofs.YtdlcakmjihfgfaaGreatDoor
end
