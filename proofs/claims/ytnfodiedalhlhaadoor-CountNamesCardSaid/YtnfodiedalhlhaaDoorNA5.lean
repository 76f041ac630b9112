/-
  Texts laid together (TeSound, ScCall, CnAlike, ScNm, ScIdx, ScStr): laws and walks, with their conditions in their statements.
-/
import Derived.Deep.MidRow
import Derived.ArgAppend
import Derived.Deep.RegionLawGrows
import Derived.Deep.QuietTactic
import Derived.Test.YtnfodiedalhlhaaDoorNA4
section
namespace Go.Proofs.YtnfodiedalhlhaaDoor
open Go.RowKit
def kName (k : Int) : Bool := k == 1 || k == 4 || k == 6 || k == 7
def kTop (k : Int) : Int := if k == 1 then 9223372036854775807 else if k == 2 then 999999999 else if k == 3 then 1 else 0
def kLeast (k : Int) : Int := if k == 4 || k == 10 then 1 else if k == 5 || k == 6 || k == 7 || k == 9 then 2 else if k == 8 then 3 else 0
def kMost (k : Int) : Int := if k == 4 || k == 10 then 1 else if k == 5 || k == 6 || k == 7 then 2 else if k == 8 then 3 else if k == 9 then 8 else 0
def closedT (tk tn : Int) (tp : Fo) : Bool := rightT tk tn tp && (Fo.vars [] (.cons tk tn tp .nil)).isEmpty
def namedB (h : Nd) : Bool := if kName h.k then Lx.nameB h.nm.data.toList else h.nm.toList.isEmpty
def typedB (h : Nd) : Bool := if h.k == 10 then closedT h.tk h.tn h.tp else sameT h.tk h.tn h.tp 0 0 .nil
def soundB (h : Nd) (m : Nat) : Bool :=
  decide (1 ≤ h.k) && decide (h.k ≤ 10) && namedB h && typedB h && decide (0 ≤ h.n) && decide (h.n ≤ kTop h.k) && decide (kLeast h.k ≤ m) && decide ((m : Int) ≤ kMost h.k)
def shapeCells : Array Value := #[
  .bool false, .bool false, .int .i64 0, .int .i64 0, .int .i64 0,
  .bool true, .bool false, .int .i64 0, .int .i64 0, .int .i64 9223372036854775807,
  .bool false, .bool false, .int .i64 0, .int .i64 0, .int .i64 999999999,
  .bool false, .bool false, .int .i64 0, .int .i64 0, .int .i64 1,
  .bool true, .bool false, .int .i64 1, .int .i64 1, .int .i64 0,
  .bool false, .bool false, .int .i64 2, .int .i64 2, .int .i64 0,
  .bool true, .bool false, .int .i64 2, .int .i64 2, .int .i64 0,
  .bool true, .bool false, .int .i64 2, .int .i64 2, .int .i64 0,
  .bool false, .bool false, .int .i64 3, .int .i64 3, .int .i64 0,
  .bool false, .bool false, .int .i64 2, .int .i64 8, .int .i64 0,
  .bool false, .bool true, .int .i64 1, .int .i64 1, .int .i64 0]
theorem results_one {P : Program} {fn : Func} {tmps : Array Value} {t : TypeId} {a : Tmp} {ad : Addr} {v : Value} {w : World} (hr : fn.results = #[.cell a t]) (hx : tmps.getD a undef = .pointer (some ad)) (hl : (loadVar t ad).run P w = .ok v w) : (results fn tmps).run P w = .ok v w := by
  have hx2 : tmps[a]?.getD undef = .pointer (some ad) := by simpa using hx
  simp [results, hr, asAddr, hx2, hl]
theorem wpList_build_as {P : Program} {ops : Array Oper} {rest : List Oper} {o : Oper} {a : Act} {w : World} {Q : Exit → Act → World → Prop} (hg : o.guard = none) (t : TypeId) (parts : Array (Nat × Operand)) (ho : o.op = .build t parts)
    (cs : Array Value) (hc : P.built t (parts.map fun (i, x) => (i, a.eval x)).toList = some cs)
    (h : wpList P ops Q rest (a.put o.dst (.agg cs)) w) : wpList P ops Q (o :: rest) a w :=
  wpList_build hg t parts ho (by rw [hc]; rfl) (by rw [hc]; exact h)
def zeroCells : Array Value := #[
  .bool false, .bool false, .int .i64 0, .int .i64 0, .int .i64 0, .bool false, .bool false, .int .i64 0, .int .i64 0, .int .i64 0,
  .bool false, .bool false, .int .i64 0, .int .i64 0, .int .i64 0, .bool false, .bool false, .int .i64 0, .int .i64 0, .int .i64 0,
  .bool false, .bool false, .int .i64 0, .int .i64 0, .int .i64 0, .bool false, .bool false, .int .i64 0, .int .i64 0, .int .i64 0,
  .bool false, .bool false, .int .i64 0, .int .i64 0, .int .i64 0, .bool false, .bool false, .int .i64 0, .int .i64 0, .int .i64 0,
  .bool false, .bool false, .int .i64 0, .int .i64 0, .int .i64 0, .bool false, .bool false, .int .i64 0, .int .i64 0, .int .i64 0,
  .bool false, .bool false, .int .i64 0, .int .i64 0, .int .i64 0]
set_option maxHeartbeats 4000000 in
set_option maxRecDepth 100000 in
theorem shapes_any (w : World) : Calls Tryd.prog 100 #[] w fun e w' => e = .returned (.agg shapeCells) ∧ Quiet0 w w' := by
  obtain ⟨W0, hW0⟩ : ∃ W0, W0 = w.alloc (.cells zeroCells 112) := ⟨_, rfl⟩
  obtain ⟨B, hB⟩ : ∃ B, B = w.heap.size := ⟨_, rfl⟩
  have hb0 : W0.heap[B]? = some (.cells zeroCells 112 (0, 0)) := by rw [hW0, hB]; exact heap_alloc_new _ _
  have HQ0 : Hid (Quiet0 w W0) := by rw [hW0]; exact Quiet0.alloc _ _
  have HB0 := Lib.hid hb0
  have HBE := Lib.hid hB
  have hi : (Tryd.prog.info? 112).map (·.size) = some 55 := by kernel_rfl
  have HI := Lib.hid hi
  clear hi hb0
  go_enter Tryd.func100, Tryd.ntmps100
  go_upto_region 1 with fail
  change Code.wp _ _ _ _ (w.alloc (.cells zeroCells 112))
  rw [← hW0, ← hB]
  clear hW0 hB
  refine wp_region_lit ?_
  with_reducible refine wpList_build_as (by rfl) 111 _ (by rfl) #[.bool true, .bool false, .int .i64 0, .int .i64 0, .int .i64 9223372036854775807] (by kernel_rfl) ?_
  simp only [Act.put, List.setIfInBounds_toArray, List.set_cons_zero, List.set_cons_succ]
  with_reducible refine wpList_build_as (by rfl) 111 _ (by rfl) #[.bool false, .bool false, .int .i64 0, .int .i64 0, .int .i64 999999999] (by kernel_rfl) ?_
  simp only [Act.put, List.setIfInBounds_toArray, List.set_cons_zero, List.set_cons_succ]
  with_reducible refine wpList_build_as (by rfl) 111 _ (by rfl) #[.bool false, .bool false, .int .i64 0, .int .i64 0, .int .i64 1] (by kernel_rfl) ?_
  simp only [Act.put, List.setIfInBounds_toArray, List.set_cons_zero, List.set_cons_succ]
  with_reducible refine wpList_build_as (by rfl) 111 _ (by rfl) #[.bool true, .bool false, .int .i64 1, .int .i64 1, .int .i64 0] (by kernel_rfl) ?_
  simp only [Act.put, List.setIfInBounds_toArray, List.set_cons_zero, List.set_cons_succ]
  with_reducible refine wpList_build_as (by rfl) 111 _ (by rfl) #[.bool false, .bool false, .int .i64 2, .int .i64 2, .int .i64 0] (by kernel_rfl) ?_
  simp only [Act.put, List.setIfInBounds_toArray, List.set_cons_zero, List.set_cons_succ]
  with_reducible refine wpList_build_as (by rfl) 111 _ (by rfl) #[.bool true, .bool false, .int .i64 2, .int .i64 2, .int .i64 0] (by kernel_rfl) ?_
  simp only [Act.put, List.setIfInBounds_toArray, List.set_cons_zero, List.set_cons_succ]
  with_reducible refine wpList_build_as (by rfl) 111 _ (by rfl) #[.bool true, .bool false, .int .i64 2, .int .i64 2, .int .i64 0] (by kernel_rfl) ?_
  simp only [Act.put, List.setIfInBounds_toArray, List.set_cons_zero, List.set_cons_succ]
  with_reducible refine wpList_build_as (by rfl) 111 _ (by rfl) #[.bool false, .bool false, .int .i64 3, .int .i64 3, .int .i64 0] (by kernel_rfl) ?_
  simp only [Act.put, List.setIfInBounds_toArray, List.set_cons_zero, List.set_cons_succ]
  with_reducible refine wpList_build_as (by rfl) 111 _ (by rfl) #[.bool false, .bool false, .int .i64 2, .int .i64 8, .int .i64 0] (by kernel_rfl) ?_
  simp only [Act.put, List.setIfInBounds_toArray, List.set_cons_zero, List.set_cons_succ]
  with_reducible refine wpList_build_as (by rfl) 111 _ (by rfl) #[.bool false, .bool true, .int .i64 1, .int .i64 1, .int .i64 0] (by kernel_rfl) ?_
  simp only [Act.put, List.setIfInBounds_toArray, List.set_cons_zero, List.set_cons_succ]
  with_reducible refine wpList_build_as (by rfl) 112 _ (by rfl) shapeCells (by kernel_rfl) ?_
  simp only [Act.put, List.setIfInBounds_toArray, List.set_cons_zero, List.set_cons_succ]
  with_reducible refine wpList_store_row ?e1 112 (.tmp 0) (.tmp 11) ?e2 B shapeCells ?e3 ?e4 112 zeroCells HB0.out ?e5 ?e6 ?e7 ?_
  case e1 => rfl
  case e2 => rfl
  case e3 => rfl
  case e4 => rfl
  case e5 => exact HI.out
  case e6 => rfl
  case e7 => simp [shapeCells, Value.oneCell']
  simp only [Act.put]
  have hb1 := setRow_heap W0 B zeroCells shapeCells 112 (0, 0) HB0.out
  have hq1 : Quiet0 w (W0.setRow B shapeCells) := Fr.trans' HQ0.out (S := fun _ => False) (T := fun k => k = B) ⟨rfl, rfl, rfl, by simp, fun k _ hk => setRow_other W0 B k shapeCells hk⟩ (fun k hk e => by have := HBE.out; omega)
  generalize W0.setRow B shapeCells = W1 at *
  have HB1 := Lib.hid hb1
  have HQ1 := Lib.hid hq1
  clear hb1 hq1
  go_wp2_with fail
  have hb1 := HB1.out
  have hl := run_loadVar_mid (P := Tryd.prog) W1 B 0 112 shapeCells.toList _ (fun j v hv => by rw [cell_of_row _ _ _ _ _ (0, 0) hb1, Nat.zero_add]; simpa using hv) Tryd.underlying112 (by rfl) HI.out
  refine bodyPost_ret (results_one (a := 0) (t := 112) (ad := ⟨B, 0, none⟩) Tryd.results100 (by rfl) hl) (by rfl) ?_
  exact ⟨rfl, HQ1.out⟩
set_option maxRecDepth 100000 in
theorem shape_at (k : Int) (h1 : 1 ≤ k) (h2 : k ≤ 10) (W : World) : Sem.run Tryd.prog (Instr.index 112 (.agg shapeCells) (.int .i64 k)) W = .ok (.agg #[.bool (kName k), .bool (k == 10), .int .i64 (kLeast k), .int .i64 (kMost k), .int .i64 (kTop k)]) W := by
  have hk : k = 1 ∨ k = 2 ∨ k = 3 ∨ k = 4 ∨ k = 5 ∨ k = 6 ∨ k = 7 ∨ k = 8 ∨ k = 9 ∨ k = 10 := by omega
  rcases hk with rfl | rfl | rfl | rfl | rfl | rfl | rfl | rfl | rfl | rfl
  all_goals rfl
theorem cells5 {w : World} {b : Nat} {a0 a1 a2 a3 a4 : Value} {t : TypeId} (h : w.heap[b]? = some (.cells #[a0, a1, a2, a3, a4] t (0, 0))) :
    w.cell? ⟨b, 0, none⟩ = some a0 ∧ w.cell? ⟨b, 1, none⟩ = some a1 ∧ w.cell? ⟨b, 2, none⟩ = some a2 ∧ w.cell? ⟨b, 3, none⟩ = some a3 ∧ w.cell? ⟨b, 4, none⟩ = some a4 := by
  refine ⟨?_, ?_, ?_, ?_, ?_⟩ <;> (rw [cell_of_row _ _ _ _ _ (0, 0) h]; rfl)
theorem set5_fr (w : World) (b : Nat) (a0 a1 a2 a3 a4 : Value) : Fr (fun j => j = b) w (((((w.setCell ⟨b, 0, none⟩ a0).setCell ⟨b, 1, none⟩ a1).setCell ⟨b, 2, none⟩ a2).setCell ⟨b, 3, none⟩ a3).setCell ⟨b, 4, none⟩ a4) :=
  ((((Fr.setCell (fun j => j = b) w ⟨b, 0, none⟩ a0 rfl).trans (Fr.setCell (fun j => j = b) _ ⟨b, 1, none⟩ a1 rfl)).trans (Fr.setCell (fun j => j = b) _ ⟨b, 2, none⟩ a2 rfl)).trans (Fr.setCell (fun j => j = b) _ ⟨b, 3, none⟩ a3 rfl)).trans (Fr.setCell (fun j => j = b) _ ⟨b, 4, none⟩ a4 rfl)
theorem set5_block {w : World} {b : Nat} {a0 a1 a2 a3 a4 b0 b1 b2 b3 b4 : Value} {t : TypeId} (h : w.heap[b]? = some (.cells #[b0, b1, b2, b3, b4] t (0, 0))) :
    (((((w.setCell ⟨b, 0, none⟩ a0).setCell ⟨b, 1, none⟩ a1).setCell ⟨b, 2, none⟩ a2).setCell ⟨b, 3, none⟩ a3).setCell ⟨b, 4, none⟩ a4).heap[b]? = some (.cells #[a0, a1, a2, a3, a4] t (0, 0)) := by
  have s0 : (w.setCell ⟨b, 0, none⟩ a0).heap[b]? = some (.cells #[a0, b1, b2, b3, b4] t (0, 0)) := set_block h
  have s1 : ((w.setCell ⟨b, 0, none⟩ a0).setCell ⟨b, 1, none⟩ a1).heap[b]? = some (.cells #[a0, a1, b2, b3, b4] t (0, 0)) := set_block s0
  have s2 : (((w.setCell ⟨b, 0, none⟩ a0).setCell ⟨b, 1, none⟩ a1).setCell ⟨b, 2, none⟩ a2).heap[b]? = some (.cells #[a0, a1, a2, b3, b4] t (0, 0)) := set_block s1
  have s3 : ((((w.setCell ⟨b, 0, none⟩ a0).setCell ⟨b, 1, none⟩ a1).setCell ⟨b, 2, none⟩ a2).setCell ⟨b, 3, none⟩ a3).heap[b]? = some (.cells #[a0, a1, a2, a3, b4] t (0, 0)) := set_block s2
  exact set_block s3
set_option maxHeartbeats 8000000 in
set_option maxRecDepth 100000 in
theorem sound_in (k : Int) (hk1 : 1 ≤ k) (hk2 : k ≤ 10) (nm : ByteArray) (n tk tn : Int) (tp0 : Fo) (fr en : Int) (w : World) (o1 : Option Addr) (l1 c1 : Nat) (o2 : Option Addr) (l2 c2 : Nat)
    (hs : Slc w o1 l1 tp0) (hnm : nm.size ≤ 100000) (hz : tp0.size ≤ 100000) (hwn : wfI tn) (hwf : wfF tp0) (_ : l2 ≤ 9223372036854775807) (ht : Lx.Spaces w) :
    Calls Tryd.prog 70 #[.agg #[.int .i64 k, .string nm, .int .i64 n, .int .i64 tk, .int .i64 tn, .slice o1 l1 c1, .slice o2 l2 c2, .int .i64 fr, .int .i64 en]] w fun e w' => e = .returned (.bool (soundB ⟨k, nm, n, tk, tn, tp0, fr, en⟩ l2)) ∧ Quiet0 w w' := by
  have HSH := Lib.hid (fun (W : World) => shapes_any W)
  have HNAME := Lib.hid (fun (W : World) (h : Quiet0 w W) => Lx.name_any nm hnm W (ht.stay h))
  have HSAME := Lib.hid (fun (W : World) (h : Quiet0 w W) => same_any tk tn tp0 0 0 .nil W o1 l1 c1 none 0 0 (hs.stay h) (Slc.nil _ _))
  have HRIGHT := Lib.hid (fun (W : World) (h : Quiet0 w W) => right_any tk tn tp0 W o1 l1 c1 (hs.stay h))
  have HVARS : Hid (∀ W' b, Quiet0 w W' → W'.heap[b]? = some (.cells #[.int .i64 tk, .int .i64 tn, .slice o1 l1 c1] 25 (0, 0)) → Calls Tryd.prog 102 #[.slice (some ⟨b, 0, none⟩) 1 1] W' fun e w' => ∃ a c, e = .returned (.slice a (Fo.vars [] (.cons tk tn tp0 .nil)).length c) ∧ Quiet0 W' w') := by
    intro W' b h hb
    refine (vars_any (.cons tk tn tp0 .nil) W' (some ⟨b, 0, none⟩) 1 1 (slc1 hb (hs.stay h)) ⟨hwn, hwf, trivial⟩ (by simp only [Fo.size]; omega)).mono ?_
    rintro e w' ⟨vo, rfl, hr, hq⟩
    obtain ⟨a, c, rfl, _⟩ := hr.at
    exact ⟨a, c, rfl, hq⟩
  have hix := shape_at k hk1 hk2
  obtain ⟨res, hres⟩ : ∃ res, res = soundB ⟨k, nm, n, tk, tn, tp0, fr, en⟩ l2 := ⟨_, rfl⟩
  rw [← hres]
  have HRES0 : Hid (res = ((if kName k then Lx.nameB nm.data.toList else nm.toList.isEmpty) && (if (k == 10) then (rightT tk tn tp0 && (Fo.vars [] (.cons tk tn tp0 .nil)).isEmpty) else sameT tk tn tp0 0 0 .nil) && decide (0 ≤ n) && decide (n ≤ kTop k) && decide (kLeast k ≤ (l2 : Int)) && decide ((l2 : Int) ≤ kMost k))) := by
    show _ = _
    rw [hres]; unfold soundB namedB typedB closedT; simp only [hk1, hk2, decide_true, Bool.true_and]
  clear hres hs ht hwn hwf hz hnm
  generalize kName k = sn at *
  generalize (k == 10) = st at *
  generalize kLeast k = le at *
  generalize kMost k = mo at *
  generalize kTop k = tp at *
  obtain ⟨W0, hW0⟩ : ∃ W0, W0 = w.alloc (.cells #[.int .i64 k, .string nm, .int .i64 n, .int .i64 tk, .int .i64 tn, .slice o1 l1 c1, .slice o2 l2 c2, .int .i64 fr, .int .i64 en] 30) := ⟨_, rfl⟩
  obtain ⟨B, hB⟩ : ∃ B, B = w.heap.size := ⟨_, rfl⟩
  have hb0 : W0.heap[B]? = some (.cells #[.int .i64 k, .string nm, .int .i64 n, .int .i64 tk, .int .i64 tn, .slice o1 l1 c1, .slice o2 l2 c2, .int .i64 fr, .int .i64 en] 30 (0, 0)) := by rw [hW0, hB]; exact heap_alloc_new _ _
  have HQ0 : Hid (Quiet0 w W0) := by rw [hW0]; exact Quiet0.alloc _ _
  have HB0 : Hid (∀ W, Quiet0 W0 W → W.heap[B]? = some (.cells #[.int .i64 k, .string nm, .int .i64 n, .int .i64 tk, .int .i64 tn, .slice o1 l1 c1, .slice o2 l2 c2, .int .i64 fr, .int .i64 en] 30 (0, 0))) := fun W h => (h.block _ (lt_of_block hb0) (fun h => h)).trans hb0
  have hBlt : B < W0.heap.size := lt_of_block hb0
  clear hb0
  have HBC : Hid (∀ W, Quiet0 W0 W → W.cell? ⟨B, 0, none⟩ = some (.int .i64 k)) := fun W h => by rw [cell_of_row _ _ _ _ _ (0, 0) (HB0.out W h)]; rfl
  have HBF : Hid (∀ W, Fr (fun j => W0.heap.size ≤ j) W0 W → W.cell? ⟨B, 0, none⟩ = some (.int .i64 k)) := fun W h => (h.cellb hBlt (fun hh => by have h2 : W0.heap.size ≤ B := hh; omega)).trans (HBC.out _ (Quiet0.refl _))
  have hnk1 : ¬ k < 1 := by omega
  have hnk2 : ¬ 10 < k := by omega
  clear hBlt
  go_enter Tryd.func70, Tryd.ntmps70
  go_upto_region 3 with fail
  change Code.wp _ _ _ _ (w.alloc (.cells #[.int .i64 k, .string nm, .int .i64 n, .int .i64 tk, .int .i64 tn, .slice o1 l1 c1, .slice o2 l2 c2, .int .i64 fr, .int .i64 en] 30))
  rw [← hW0, ← hB]
  clear hW0 hB
  go_cut [3] (fun t wx => ∃ sb : Nat, t = .pointer (some ⟨sb, 0, none⟩) ∧ wx.heap[sb]? = some (.cells #[.bool sn, .bool st, .int .i64 le, .int .i64 mo, .int .i64 tp] 111 (0, 0)) ∧ Quiet0 W0 wx)
  case first =>
    clear HRES0 HNAME HSAME HRIGHT HVARS
    have HFR := Fr.refl (fun j => W0.heap.size ≤ j) W0
    have a0 := HBF.out _ HFR
    go_region_held3 (fun w' => w'.cell? ⟨B, 0, none⟩ = some (.int .i64 k))
      (((refine HBF.out _ ?_); (repeat (first | with_reducible exact HFR | with_reducible exact Quiet0.fr hqc | with_reducible exact Fr.refl _ _ | with_reducible refine Fr.trans ?_ (Fr.alloc _ _ _) | with_reducible refine Fr.trans ?_ (Fr.drew _ _) | ((with_reducible refine Fr.trans ?_ (Fr.setCell _ _ _ _ ?hsd)); (case hsd => (simp <;> omega))) | fail))))
      (first
        | (go_at_call 100; (with_reducible refine Calls.mono (HSH.out _) ?_); rintro e wx ⟨rfl, hqx⟩; (try (refine box5_use (b := W0.heap.size) (t := 111) (a0 := .bool false) (a1 := .bool false) (a2 := .int .i64 0) (a3 := .int .i64 0) (a4 := .int .i64 0) (blk_after hqx ?hbk) ?_; (case hbk => exact blk_new _ _ _ _ rfl); intro f0 f1 f2 f3 f4 y0 y1 y2 y3 y4 hzz)); (refine with_frq (S := fun j => W0.heap.size ≤ j) (w0 := W0) ?hfr hqx ?_); (case hfr => (repeat (first | with_reducible exact HFR | with_reducible exact Quiet0.fr hqc | with_reducible exact Fr.refl _ _ | with_reducible refine Fr.trans ?_ (Fr.alloc _ _ _) | with_reducible refine Fr.trans ?_ (Fr.drew _ _) | ((with_reducible refine Fr.trans ?_ (Fr.setCell _ _ _ _ ?hsd)); (case hsd => (simp <;> omega))) | fail))); intro HFR))
    all_goals
      clear hix HSH a0 HBC HBF HB0
      generalize shapeCells = sc at *
      go_step
      go_step
      go_meet
      refine ⟨_, rfl, ?hbb, ?hqq⟩
      case hbb =>
        first
        | with_reducible exact heap_alloc_new _ _
        | with_reducible exact set5_block hzz
      case hqq =>
        unfold Quiet0
        have h0 : Fr (fun _ => False) W0 wx := HFR.mono (fun i hi h => by have h2 : W0.heap.size ≤ i := h; omega)
        first
        | with_reducible exact Fr.trans h0 (Fr.alloc _ _ _)
        | (with_reducible refine Fr.trans' (T := fun j => j = W0.heap.size) h0 ?_ (fun i hi e => by omega)
           with_reducible exact set5_fr _ _ _ _ _ _ _)
  case rest =>
    rename World => wx
    obtain ⟨sb, rfl, hsb, hqx⟩ := hcut
    have HSB : Hid (∀ W, Quiet0 wx W → W.heap[sb]? = some (.cells #[.bool sn, .bool st, .int .i64 le, .int .i64 mo, .int .i64 tp] 111 (0, 0))) := fun W h => (h.block _ (lt_of_block hsb) (fun h => h)).trans hsb
    have HQX := Lib.hid hqx
    have HRES := HRES0
    clear HBC HBF HSH hix HRES0 hsb hqx
    obtain ⟨b0, b1, b2, b3, b4, b5, b6, b7, b8⟩ := cells9_block (h := ⟨k, nm, n, tk, tn, tp0, fr, en⟩) (HB0.out _ HQX.out)
    obtain ⟨s0, s1, s2, s3, s4⟩ := cells5 (HSB.out _ (Quiet0.refl wx))
    generalize sameT tk tn tp0 0 0 .nil = sm at *
    generalize rightT tk tn tp0 = rt at *
    generalize Fo.vars [] (.cons tk tn tp0 .nil) = L at *
    unfold tyv at HSAME HRIGHT
    cases sn
    · cases hbn : nm.toList.isEmpty
      · have e2 : ¬ nm.toList = [] := by simpa using hbn
        have e3 : nm.toList.isEmpty = false := hbn
        rw [hbn] at HRES
        clear hbn
        have HX1 := Lib.hid (Quiet0.refl wx)
        cases st
        · go_wp2_with fail
          refine (HSAME.out _ (HQ0.out.trans HQX.out)).mono ?_; rintro e w5 ⟨rfl, hq5⟩
          have HF := Lib.hid ((HQ0.out.trans HQX.out).trans hq5)
          have HF0 := Lib.hid (HQX.out.trans hq5)
          have HF1 := Lib.hid (HX1.out.trans hq5)
          clear hq5
          clear b0 b1 b2 b3 b4 b5 b6 b7 b8 s0 s1 s2 s3 s4
          obtain ⟨b0, b1, b2, b3, b4, b5, b6, b7, b8⟩ := cells9_block (h := ⟨k, nm, n, tk, tn, tp0, fr, en⟩) (HB0.out _ HF0.out)
          obtain ⟨s0, s1, s2, s3, s4⟩ := cells5 (HSB.out _ HF1.out)
          change Hid (res = (false && sm && decide (0 ≤ n) && decide (n ≤ tp) && decide (le ≤ (l2 : Int)) && decide ((l2 : Int) ≤ mo))) at HRES
          generalize sm = bt at *
          go_upto_region 11 with fail
          go_wp2_with fail
          all_goals first
          | (exfalso; omega)
          | (go_ret; exact ⟨by rw [HRES.out]; simp <;> omega, HF.out⟩)
        · go_wp2_with fail
          refine (HSAME.out _ (HQ0.out.trans HQX.out)).mono ?_; rintro e w3 ⟨rfl, hq3⟩
          have HE0 := Lib.hid (HQX.out.trans hq3)
          have HE1 := Lib.hid (HX1.out.trans hq3)
          clear hq3 b0 b1 b2 b3 b4 b5 b6 b7 b8 s0 s1 s2 s3 s4
          obtain ⟨b0, b1, b2, b3, b4, b5, b6, b7, b8⟩ := cells9_block (h := ⟨k, nm, n, tk, tn, tp0, fr, en⟩) (HB0.out _ HE0.out)
          obtain ⟨s0, s1, s2, s3, s4⟩ := cells5 (HSB.out _ HE1.out)
          go_wp2_with fail
          refine (HRIGHT.out _ (HQ0.out.trans HE0.out)).mono ?_; rintro e w5 ⟨rfl, hq5⟩
          have HF := Lib.hid ((HQ0.out.trans HE0.out).trans hq5)
          have HF0 := Lib.hid (HE0.out.trans hq5)
          have HF1 := Lib.hid (HE1.out.trans hq5)
          clear hq5
          clear b0 b1 b2 b3 b4 b5 b6 b7 b8 s0 s1 s2 s3 s4
          obtain ⟨b0, b1, b2, b3, b4, b5, b6, b7, b8⟩ := cells9_block (h := ⟨k, nm, n, tk, tn, tp0, fr, en⟩) (HB0.out _ HF0.out)
          obtain ⟨s0, s1, s2, s3, s4⟩ := cells5 (HSB.out _ HF1.out)
          cases rt
          · change Hid (res = (false && (false && L.isEmpty) && decide (0 ≤ n) && decide (n ≤ tp) && decide (le ≤ (l2 : Int)) && decide ((l2 : Int) ≤ mo))) at HRES
            go_upto_region 11 with fail
            go_wp2_with fail
            all_goals first
            | (exfalso; omega)
            | (go_ret; exact ⟨by rw [HRES.out]; simp <;> omega, HF.out⟩)
          · change Hid (res = (false && (true && L.isEmpty) && decide (0 ≤ n) && decide (n ≤ tp) && decide (le ≤ (l2 : Int)) && decide ((l2 : Int) ≤ mo))) at HRES
            obtain ⟨W6, hW6⟩ : ∃ W6, W6 = w5.alloc (.cells #[.int .i64 tk, .int .i64 tn, .slice o1 l1 c1] 25) := ⟨_, rfl⟩
            obtain ⟨vb, hvb⟩ : ∃ vb, vb = w5.heap.size := ⟨_, rfl⟩
            have hb6 : W6.heap[vb]? = some (.cells #[.int .i64 tk, .int .i64 tn, .slice o1 l1 c1] 25 (0, 0)) := by rw [hW6, hvb]; exact heap_alloc_new _ _
            have HQ6 : Hid (Quiet0 w5 W6) := by rw [hW6]; exact Quiet0.alloc _ _
            have HVC := Lib.hid (HVARS.out W6 vb (HF.out.trans HQ6.out) hb6)
            rw [hW6, hvb] at HVC
            clear hb6 hW6 hvb HQ6
            go_wp2_with fail
            refine HVC.out.mono ?_; rintro e w7 ⟨va, vc, rfl, hq7⟩
            replace HF := Lib.hid ((HF.out.trans (Quiet0.alloc _ _)).trans hq7)
            have HG0 := Lib.hid ((HF0.out.trans (Quiet0.alloc _ _)).trans hq7)
            have HG1 := Lib.hid ((HF1.out.trans (Quiet0.alloc _ _)).trans hq7)
            clear hq7
            clear b0 b1 b2 b3 b4 b5 b6 b7 b8 s0 s1 s2 s3 s4
            obtain ⟨b0, b1, b2, b3, b4, b5, b6, b7, b8⟩ := cells9_block (h := ⟨k, nm, n, tk, tn, tp0, fr, en⟩) (HB0.out _ HG0.out)
            obtain ⟨s0, s1, s2, s3, s4⟩ := cells5 (HSB.out _ HG1.out)
            cases L
            · change Hid (res = (false && true && decide (0 ≤ n) && decide (n ≤ tp) && decide (le ≤ (l2 : Int)) && decide ((l2 : Int) ≤ mo))) at HRES
              have hl0 : ((([] : List Int).length : Nat) : Int) = 0 := rfl
              go_upto_region 11 with fail
              go_wp2_with fail
              all_goals first
              | (exfalso; omega)
              | (go_ret; exact ⟨by rw [HRES.out]; simp <;> omega, HF.out⟩)
            · rename_i x0 r0
              change Hid (res = (false && false && decide (0 ≤ n) && decide (n ≤ tp) && decide (le ≤ (l2 : Int)) && decide ((l2 : Int) ≤ mo))) at HRES
              have hl0 : ¬ (((x0 :: r0).length : Nat) : Int) = 0 := by simp; omega
              generalize (((x0 :: r0).length : Nat)) = ln at *
              go_upto_region 11 with fail
              go_wp2_with fail
              all_goals first
              | (exfalso; omega)
              | (go_ret; exact ⟨by rw [HRES.out]; simp <;> omega, HF.out⟩)
      · have e2 : nm.toList = [] := by simpa using hbn
        have e3 : nm.toList.isEmpty = true := hbn
        rw [hbn] at HRES
        clear hbn
        have HX1 := Lib.hid (Quiet0.refl wx)
        cases st
        · go_wp2_with fail
          refine (HSAME.out _ (HQ0.out.trans HQX.out)).mono ?_; rintro e w5 ⟨rfl, hq5⟩
          have HF := Lib.hid ((HQ0.out.trans HQX.out).trans hq5)
          have HF0 := Lib.hid (HQX.out.trans hq5)
          have HF1 := Lib.hid (HX1.out.trans hq5)
          clear hq5
          clear b0 b1 b2 b3 b4 b5 b6 b7 b8 s0 s1 s2 s3 s4
          obtain ⟨b0, b1, b2, b3, b4, b5, b6, b7, b8⟩ := cells9_block (h := ⟨k, nm, n, tk, tn, tp0, fr, en⟩) (HB0.out _ HF0.out)
          obtain ⟨s0, s1, s2, s3, s4⟩ := cells5 (HSB.out _ HF1.out)
          change Hid (res = (true && sm && decide (0 ≤ n) && decide (n ≤ tp) && decide (le ≤ (l2 : Int)) && decide ((l2 : Int) ≤ mo))) at HRES
          generalize sm = bt at *
          go_upto_region 11 with fail
          cases bt
          · go_wp2_with fail
            all_goals first
            | (exfalso; omega)
            | (go_ret; exact ⟨by rw [HRES.out]; simp <;> omega, HF.out⟩)
          · by_cases g1 : 0 ≤ n
            · by_cases g2 : n ≤ tp
              · by_cases g3 : le ≤ (l2 : Int)
                · by_cases g4 : (l2 : Int) ≤ mo
                  · go_wp2_with fail
                    all_goals first
                    | (exfalso; omega)
                    | (go_ret; exact ⟨by rw [HRES.out]; simp [g1, g2, g3, g4] <;> omega, HF.out⟩)
                  · have g4' : mo < (l2 : Int) := by omega
                    go_wp2_with fail
                    all_goals first
                    | (exfalso; omega)
                    | (go_ret; exact ⟨by rw [HRES.out]; simp [g1, g2, g3, g4] <;> omega, HF.out⟩)
                · have g3' : (l2 : Int) < le := by omega
                  go_wp2_with fail
                  all_goals first
                  | (exfalso; omega)
                  | (go_ret; exact ⟨by rw [HRES.out]; simp <;> omega, HF.out⟩)
              · have g2' : tp < n := by omega
                go_wp2_with fail
                all_goals first
                | (exfalso; omega)
                | (go_ret; exact ⟨by rw [HRES.out]; simp <;> omega, HF.out⟩)
            · have g1' : n < 0 := by omega
              go_wp2_with fail
              all_goals first
              | (exfalso; omega)
              | (go_ret; exact ⟨by rw [HRES.out]; simp <;> omega, HF.out⟩)
        · go_wp2_with fail
          refine (HSAME.out _ (HQ0.out.trans HQX.out)).mono ?_; rintro e w3 ⟨rfl, hq3⟩
          have HE0 := Lib.hid (HQX.out.trans hq3)
          have HE1 := Lib.hid (HX1.out.trans hq3)
          clear hq3 b0 b1 b2 b3 b4 b5 b6 b7 b8 s0 s1 s2 s3 s4
          obtain ⟨b0, b1, b2, b3, b4, b5, b6, b7, b8⟩ := cells9_block (h := ⟨k, nm, n, tk, tn, tp0, fr, en⟩) (HB0.out _ HE0.out)
          obtain ⟨s0, s1, s2, s3, s4⟩ := cells5 (HSB.out _ HE1.out)
          go_wp2_with fail
          refine (HRIGHT.out _ (HQ0.out.trans HE0.out)).mono ?_; rintro e w5 ⟨rfl, hq5⟩
          have HF := Lib.hid ((HQ0.out.trans HE0.out).trans hq5)
          have HF0 := Lib.hid (HE0.out.trans hq5)
          have HF1 := Lib.hid (HE1.out.trans hq5)
          clear hq5
          clear b0 b1 b2 b3 b4 b5 b6 b7 b8 s0 s1 s2 s3 s4
          obtain ⟨b0, b1, b2, b3, b4, b5, b6, b7, b8⟩ := cells9_block (h := ⟨k, nm, n, tk, tn, tp0, fr, en⟩) (HB0.out _ HF0.out)
          obtain ⟨s0, s1, s2, s3, s4⟩ := cells5 (HSB.out _ HF1.out)
          cases rt
          · change Hid (res = (true && (false && L.isEmpty) && decide (0 ≤ n) && decide (n ≤ tp) && decide (le ≤ (l2 : Int)) && decide ((l2 : Int) ≤ mo))) at HRES
            go_upto_region 11 with fail
            go_wp2_with fail
            all_goals first
            | (exfalso; omega)
            | (go_ret; exact ⟨by rw [HRES.out]; simp <;> omega, HF.out⟩)
          · change Hid (res = (true && (true && L.isEmpty) && decide (0 ≤ n) && decide (n ≤ tp) && decide (le ≤ (l2 : Int)) && decide ((l2 : Int) ≤ mo))) at HRES
            obtain ⟨W6, hW6⟩ : ∃ W6, W6 = w5.alloc (.cells #[.int .i64 tk, .int .i64 tn, .slice o1 l1 c1] 25) := ⟨_, rfl⟩
            obtain ⟨vb, hvb⟩ : ∃ vb, vb = w5.heap.size := ⟨_, rfl⟩
            have hb6 : W6.heap[vb]? = some (.cells #[.int .i64 tk, .int .i64 tn, .slice o1 l1 c1] 25 (0, 0)) := by rw [hW6, hvb]; exact heap_alloc_new _ _
            have HQ6 : Hid (Quiet0 w5 W6) := by rw [hW6]; exact Quiet0.alloc _ _
            have HVC := Lib.hid (HVARS.out W6 vb (HF.out.trans HQ6.out) hb6)
            rw [hW6, hvb] at HVC
            clear hb6 hW6 hvb HQ6
            go_wp2_with fail
            refine HVC.out.mono ?_; rintro e w7 ⟨va, vc, rfl, hq7⟩
            replace HF := Lib.hid ((HF.out.trans (Quiet0.alloc _ _)).trans hq7)
            have HG0 := Lib.hid ((HF0.out.trans (Quiet0.alloc _ _)).trans hq7)
            have HG1 := Lib.hid ((HF1.out.trans (Quiet0.alloc _ _)).trans hq7)
            clear hq7
            clear b0 b1 b2 b3 b4 b5 b6 b7 b8 s0 s1 s2 s3 s4
            obtain ⟨b0, b1, b2, b3, b4, b5, b6, b7, b8⟩ := cells9_block (h := ⟨k, nm, n, tk, tn, tp0, fr, en⟩) (HB0.out _ HG0.out)
            obtain ⟨s0, s1, s2, s3, s4⟩ := cells5 (HSB.out _ HG1.out)
            cases L
            · change Hid (res = (true && true && decide (0 ≤ n) && decide (n ≤ tp) && decide (le ≤ (l2 : Int)) && decide ((l2 : Int) ≤ mo))) at HRES
              have hl0 : ((([] : List Int).length : Nat) : Int) = 0 := rfl
              go_upto_region 11 with fail
              by_cases g1 : 0 ≤ n
              · by_cases g2 : n ≤ tp
                · by_cases g3 : le ≤ (l2 : Int)
                  · by_cases g4 : (l2 : Int) ≤ mo
                    · go_wp2_with fail
                      all_goals first
                      | (exfalso; omega)
                      | (go_ret; exact ⟨by rw [HRES.out]; simp [g1, g2, g3, g4] <;> omega, HF.out⟩)
                    · have g4' : mo < (l2 : Int) := by omega
                      go_wp2_with fail
                      all_goals first
                      | (exfalso; omega)
                      | (go_ret; exact ⟨by rw [HRES.out]; simp [g1, g2, g3, g4] <;> omega, HF.out⟩)
                  · have g3' : (l2 : Int) < le := by omega
                    go_wp2_with fail
                    all_goals first
                    | (exfalso; omega)
                    | (go_ret; exact ⟨by rw [HRES.out]; simp <;> omega, HF.out⟩)
                · have g2' : tp < n := by omega
                  go_wp2_with fail
                  all_goals first
                  | (exfalso; omega)
                  | (go_ret; exact ⟨by rw [HRES.out]; simp <;> omega, HF.out⟩)
              · have g1' : n < 0 := by omega
                go_wp2_with fail
                all_goals first
                | (exfalso; omega)
                | (go_ret; exact ⟨by rw [HRES.out]; simp <;> omega, HF.out⟩)
            · rename_i x0 r0
              change Hid (res = (true && false && decide (0 ≤ n) && decide (n ≤ tp) && decide (le ≤ (l2 : Int)) && decide ((l2 : Int) ≤ mo))) at HRES
              have hl0 : ¬ (((x0 :: r0).length : Nat) : Int) = 0 := by simp; omega
              generalize (((x0 :: r0).length : Nat)) = ln at *
              go_upto_region 11 with fail
              go_wp2_with fail
              all_goals first
              | (exfalso; omega)
              | (go_ret; exact ⟨by rw [HRES.out]; simp <;> omega, HF.out⟩)
    · go_wp2_with fail
      refine (HNAME.out _ (HQ0.out.trans HQX.out)).mono ?_; rintro e w4 ⟨rfl, hq4⟩
      have HX0 := Lib.hid (HQX.out.trans hq4)
      have HX1 := Lib.hid hq4
      clear hq4
      clear b0 b1 b2 b3 b4 b5 b6 b7 b8 s0 s1 s2 s3 s4
      obtain ⟨b0, b1, b2, b3, b4, b5, b6, b7, b8⟩ := cells9_block (h := ⟨k, nm, n, tk, tn, tp0, fr, en⟩) (HB0.out _ HX0.out)
      obtain ⟨s0, s1, s2, s3, s4⟩ := cells5 (HSB.out _ HX1.out)
      generalize Lx.nameB nm.data.toList = bn at *
      cases st
      · go_wp2_with fail
        refine (HSAME.out _ (HQ0.out.trans HX0.out)).mono ?_; rintro e w5 ⟨rfl, hq5⟩
        have HF := Lib.hid ((HQ0.out.trans HX0.out).trans hq5)
        have HF0 := Lib.hid (HX0.out.trans hq5)
        have HF1 := Lib.hid (HX1.out.trans hq5)
        clear hq5
        clear b0 b1 b2 b3 b4 b5 b6 b7 b8 s0 s1 s2 s3 s4
        obtain ⟨b0, b1, b2, b3, b4, b5, b6, b7, b8⟩ := cells9_block (h := ⟨k, nm, n, tk, tn, tp0, fr, en⟩) (HB0.out _ HF0.out)
        obtain ⟨s0, s1, s2, s3, s4⟩ := cells5 (HSB.out _ HF1.out)
        change Hid (res = (bn && sm && decide (0 ≤ n) && decide (n ≤ tp) && decide (le ≤ (l2 : Int)) && decide ((l2 : Int) ≤ mo))) at HRES
        generalize sm = bt at *
        go_upto_region 11 with fail
        cases bn
        · go_wp2_with fail
          all_goals first
          | (exfalso; omega)
          | (go_ret; exact ⟨by rw [HRES.out]; simp <;> omega, HF.out⟩)
        · cases bt
          · go_wp2_with fail
            all_goals first
            | (exfalso; omega)
            | (go_ret; exact ⟨by rw [HRES.out]; simp <;> omega, HF.out⟩)
          · by_cases g1 : 0 ≤ n
            · by_cases g2 : n ≤ tp
              · by_cases g3 : le ≤ (l2 : Int)
                · by_cases g4 : (l2 : Int) ≤ mo
                  · go_wp2_with fail
                    all_goals first
                    | (exfalso; omega)
                    | (go_ret; exact ⟨by rw [HRES.out]; simp [g1, g2, g3, g4] <;> omega, HF.out⟩)
                  · have g4' : mo < (l2 : Int) := by omega
                    go_wp2_with fail
                    all_goals first
                    | (exfalso; omega)
                    | (go_ret; exact ⟨by rw [HRES.out]; simp [g1, g2, g3, g4] <;> omega, HF.out⟩)
                · have g3' : (l2 : Int) < le := by omega
                  go_wp2_with fail
                  all_goals first
                  | (exfalso; omega)
                  | (go_ret; exact ⟨by rw [HRES.out]; simp <;> omega, HF.out⟩)
              · have g2' : tp < n := by omega
                go_wp2_with fail
                all_goals first
                | (exfalso; omega)
                | (go_ret; exact ⟨by rw [HRES.out]; simp <;> omega, HF.out⟩)
            · have g1' : n < 0 := by omega
              go_wp2_with fail
              all_goals first
              | (exfalso; omega)
              | (go_ret; exact ⟨by rw [HRES.out]; simp <;> omega, HF.out⟩)
      · go_wp2_with fail
        refine (HSAME.out _ (HQ0.out.trans HX0.out)).mono ?_; rintro e w3 ⟨rfl, hq3⟩
        have HE0 := Lib.hid (HX0.out.trans hq3)
        have HE1 := Lib.hid (HX1.out.trans hq3)
        clear hq3 b0 b1 b2 b3 b4 b5 b6 b7 b8 s0 s1 s2 s3 s4
        obtain ⟨b0, b1, b2, b3, b4, b5, b6, b7, b8⟩ := cells9_block (h := ⟨k, nm, n, tk, tn, tp0, fr, en⟩) (HB0.out _ HE0.out)
        obtain ⟨s0, s1, s2, s3, s4⟩ := cells5 (HSB.out _ HE1.out)
        go_wp2_with fail
        refine (HRIGHT.out _ (HQ0.out.trans HE0.out)).mono ?_; rintro e w5 ⟨rfl, hq5⟩
        have HF := Lib.hid ((HQ0.out.trans HE0.out).trans hq5)
        have HF0 := Lib.hid (HE0.out.trans hq5)
        have HF1 := Lib.hid (HE1.out.trans hq5)
        clear hq5
        clear b0 b1 b2 b3 b4 b5 b6 b7 b8 s0 s1 s2 s3 s4
        obtain ⟨b0, b1, b2, b3, b4, b5, b6, b7, b8⟩ := cells9_block (h := ⟨k, nm, n, tk, tn, tp0, fr, en⟩) (HB0.out _ HF0.out)
        obtain ⟨s0, s1, s2, s3, s4⟩ := cells5 (HSB.out _ HF1.out)
        cases rt
        · change Hid (res = (bn && (false && L.isEmpty) && decide (0 ≤ n) && decide (n ≤ tp) && decide (le ≤ (l2 : Int)) && decide ((l2 : Int) ≤ mo))) at HRES
          go_upto_region 11 with fail
          cases bn
          · go_wp2_with fail
            all_goals first
            | (exfalso; omega)
            | (go_ret; exact ⟨by rw [HRES.out]; simp <;> omega, HF.out⟩)
          · go_wp2_with fail
            all_goals first
            | (exfalso; omega)
            | (go_ret; exact ⟨by rw [HRES.out]; simp <;> omega, HF.out⟩)
        · change Hid (res = (bn && (true && L.isEmpty) && decide (0 ≤ n) && decide (n ≤ tp) && decide (le ≤ (l2 : Int)) && decide ((l2 : Int) ≤ mo))) at HRES
          obtain ⟨W6, hW6⟩ : ∃ W6, W6 = w5.alloc (.cells #[.int .i64 tk, .int .i64 tn, .slice o1 l1 c1] 25) := ⟨_, rfl⟩
          obtain ⟨vb, hvb⟩ : ∃ vb, vb = w5.heap.size := ⟨_, rfl⟩
          have hb6 : W6.heap[vb]? = some (.cells #[.int .i64 tk, .int .i64 tn, .slice o1 l1 c1] 25 (0, 0)) := by rw [hW6, hvb]; exact heap_alloc_new _ _
          have HQ6 : Hid (Quiet0 w5 W6) := by rw [hW6]; exact Quiet0.alloc _ _
          have HVC := Lib.hid (HVARS.out W6 vb (HF.out.trans HQ6.out) hb6)
          rw [hW6, hvb] at HVC
          clear hb6 hW6 hvb HQ6
          go_wp2_with fail
          refine HVC.out.mono ?_; rintro e w7 ⟨va, vc, rfl, hq7⟩
          replace HF := Lib.hid ((HF.out.trans (Quiet0.alloc _ _)).trans hq7)
          have HG0 := Lib.hid ((HF0.out.trans (Quiet0.alloc _ _)).trans hq7)
          have HG1 := Lib.hid ((HF1.out.trans (Quiet0.alloc _ _)).trans hq7)
          clear hq7
          clear b0 b1 b2 b3 b4 b5 b6 b7 b8 s0 s1 s2 s3 s4
          obtain ⟨b0, b1, b2, b3, b4, b5, b6, b7, b8⟩ := cells9_block (h := ⟨k, nm, n, tk, tn, tp0, fr, en⟩) (HB0.out _ HG0.out)
          obtain ⟨s0, s1, s2, s3, s4⟩ := cells5 (HSB.out _ HG1.out)
          cases L
          · change Hid (res = (bn && true && decide (0 ≤ n) && decide (n ≤ tp) && decide (le ≤ (l2 : Int)) && decide ((l2 : Int) ≤ mo))) at HRES
            have hl0 : ((([] : List Int).length : Nat) : Int) = 0 := rfl
            go_upto_region 11 with fail
            cases bn
            · go_wp2_with fail
              all_goals first
              | (exfalso; omega)
              | (go_ret; exact ⟨by rw [HRES.out]; simp <;> omega, HF.out⟩)
            · by_cases g1 : 0 ≤ n
              · by_cases g2 : n ≤ tp
                · by_cases g3 : le ≤ (l2 : Int)
                  · by_cases g4 : (l2 : Int) ≤ mo
                    · go_wp2_with fail
                      all_goals first
                      | (exfalso; omega)
                      | (go_ret; exact ⟨by rw [HRES.out]; simp [g1, g2, g3, g4] <;> omega, HF.out⟩)
                    · have g4' : mo < (l2 : Int) := by omega
                      go_wp2_with fail
                      all_goals first
                      | (exfalso; omega)
                      | (go_ret; exact ⟨by rw [HRES.out]; simp [g1, g2, g3, g4] <;> omega, HF.out⟩)
                  · have g3' : (l2 : Int) < le := by omega
                    go_wp2_with fail
                    all_goals first
                    | (exfalso; omega)
                    | (go_ret; exact ⟨by rw [HRES.out]; simp <;> omega, HF.out⟩)
                · have g2' : tp < n := by omega
                  go_wp2_with fail
                  all_goals first
                  | (exfalso; omega)
                  | (go_ret; exact ⟨by rw [HRES.out]; simp <;> omega, HF.out⟩)
              · have g1' : n < 0 := by omega
                go_wp2_with fail
                all_goals first
                | (exfalso; omega)
                | (go_ret; exact ⟨by rw [HRES.out]; simp <;> omega, HF.out⟩)
          · rename_i x0 r0
            change Hid (res = (bn && false && decide (0 ≤ n) && decide (n ≤ tp) && decide (le ≤ (l2 : Int)) && decide ((l2 : Int) ≤ mo))) at HRES
            have hl0 : ¬ (((x0 :: r0).length : Nat) : Int) = 0 := by simp; omega
            generalize (((x0 :: r0).length : Nat)) = ln at *
            go_upto_region 11 with fail
            cases bn
            · go_wp2_with fail
              all_goals first
              | (exfalso; omega)
              | (go_ret; exact ⟨by rw [HRES.out]; simp <;> omega, HF.out⟩)
            · go_wp2_with fail
              all_goals first
              | (exfalso; omega)
              | (go_ret; exact ⟨by rw [HRES.out]; simp <;> omega, HF.out⟩)
end Go.Proofs.YtnfodiedalhlhaaDoor
end
section
namespace Go.Proofs.YtnfodiedalhlhaaDoor
namespace Sc
section
variable (ok : ByteArray → Bool)
def newNm (h : Nd) (l : List ByteArray) : ByteArray := match l with
  | [] => h.nm
  | a :: _ => if bindK h.k && ok a then a else h.nm
def restNm (h : Nd) (l : List ByteArray) : List ByteArray := if bindK h.k then l.tail else l
def varNm (x y : List ByteArray) (s : ByteArray) : ByteArray := if 0 ≤ ix x s then y.getD (ix x s).toNat ByteArray.empty else s
def callR : Int → ByteArray → ByteArray → Nat → List ByteArray → List ByteArray → List ByteArray → To → To × List ByteArray
  | _, _, _, _, _, _, l, .nil => (.nil, l)
  | bk, nm, nm2, i, x, y, l, .cons h ps r =>
    let q : Nd × To × List ByteArray := if h.k = 1 then ({ h with nm := varNm (envOf bk nm i x) (envOf bk nm2 i y) h.nm }, ps, l) else
      ({ h with nm := newNm ok h l }, (callR h.k h.nm (newNm ok h l) 0 (envOf bk nm i x) (envOf bk nm2 i y) (restNm h l) ps).1, (callR h.k h.nm (newNm ok h l) 0 (envOf bk nm i x) (envOf bk nm2 i y) (restNm h l) ps).2)
    (.cons q.1 q.2.1 (callR bk nm nm2 (i + 1) x y q.2.2 r).1, (callR bk nm nm2 (i + 1) x y q.2.2 r).2)
def call1 (x y l : List ByteArray) (h : Nd) (ps : To) : Nd × To × List ByteArray :=
  if h.k = 1 then ({ h with nm := varNm x y h.nm }, ps, l) else
    ({ h with nm := newNm ok h l }, (callR ok h.k h.nm (newNm ok h l) 0 x y (restNm h l) ps).1, (callR ok h.k h.nm (newNm ok h l) 0 x y (restNm h l) ps).2)
theorem callR_cons (bk : Int) (nm nm2 : ByteArray) (i : Nat) (x y l : List ByteArray) (h : Nd) (ps r : To) : callR ok bk nm nm2 i x y l (.cons h ps r) =
    (.cons (call1 ok (envOf bk nm i x) (envOf bk nm2 i y) l h ps).1 (call1 ok (envOf bk nm i x) (envOf bk nm2 i y) l h ps).2.1 (callR ok bk nm nm2 (i + 1) x y (call1 ok (envOf bk nm i x) (envOf bk nm2 i y) l h ps).2.2 r).1,
      (callR ok bk nm nm2 (i + 1) x y (call1 ok (envOf bk nm i x) (envOf bk nm2 i y) l h ps).2.2 r).2) := rfl
theorem callR_length : ∀ (f : To) (bk : Int) (nm nm2 : ByteArray) (i : Nat) (x y l : List ByteArray), (callR ok bk nm nm2 i x y l f).1.length = f.length
  | .nil, _, _, _, _, _, _, _ => rfl
  | .cons h ps r, bk, nm, nm2, i, x, y, l => by rw [callR_cons]; simp only [To.length]; rw [callR_length r]
theorem callR_size : ∀ (f : To) (bk : Int) (nm nm2 : ByteArray) (i : Nat) (x y l : List ByteArray), (callR ok bk nm nm2 i x y l f).1.size = f.size
  | .nil, _, _, _, _, _, _, _ => rfl
  | .cons h ps r, bk, nm, nm2, i, x, y, l => by
    rw [callR_cons]; simp only [To.size]; rw [callR_size r]
    unfold call1
    by_cases hk : h.k = 1
    · simp only [if_pos hk]
    · simp only [if_neg hk]; rw [callR_size ps]
theorem call1_head (x y l : List ByteArray) (h : Nd) (ps : To) : ∃ s, (call1 ok x y l h ps).1 = { h with nm := s } := by
  unfold call1; split
  · exact ⟨_, rfl⟩
  · exact ⟨_, rfl⟩
theorem callR_all {G : Nd → Prop} (hG : ∀ h s, G h → G { h with nm := s }) : ∀ (f : To) (bk : Int) (nm nm2 : ByteArray) (i : Nat) (x y l : List ByteArray), allT G f → allT G (callR ok bk nm nm2 i x y l f).1
  | .nil, _, _, _, _, _, _, _, _ => trivial
  | .cons h ps r, bk, nm, nm2, i, x, y, l, ⟨h1, h2, h3⟩ => by
    rw [callR_cons]
    refine ⟨?_, ?_, callR_all hG r _ _ _ _ _ _ _ h3⟩
    · obtain ⟨s, hs⟩ := call1_head ok (envOf bk nm i x) (envOf bk nm2 i y) l h ps
      rw [hs]; exact hG h s h1
    · unfold call1; split
      · exact h2
      · exact callR_all hG ps _ _ _ _ _ _ _ h2
end
theorem refA1_refl_aux : ∀ (f : To) (bk : Int) (nm : ByteArray) (i : Nat) (x : List ByteArray), refAR bk nm bk nm i x x f f = true
  | .nil, _, _, _, _ => rfl
  | .cons h ps r, bk, nm, i, x => by
    rw [refAR_cons, refA1_refl_aux r, Bool.and_true]
    unfold refA1
    have := refA1_refl_aux ps h.k h.nm 0 (envOf bk nm i x)
    have hs : sameT h.tk h.tn h.tp h.tk h.tn h.tp = true := by unfold sameT; simp [Fo.same_refl]
    rw [hs]
    by_cases h1 : h.k = 1
    · simp [h1]
    · simp [h1, this]
theorem refA1_refl (x : List ByteArray) (h : Nd) (ps : To) : refA1 x x h ps h ps = true := by
  have := refA1_refl_aux (.cons h ps .nil) 0 ByteArray.empty 0 x
  rw [refAR_cons] at this
  simp only [Bool.and_eq_true] at this
  exact this.1
def freeL : Int → ByteArray → Nat → List ByteArray → To → List Nd
  | _, _, _, _, .nil => []
  | bk, nm, i, e, .cons h ps r => (if h.k = 1 then (if ix (envOf bk nm i e) h.nm < 0 then [h] else []) else freeL h.k h.nm 0 (envOf bk nm i e) ps) ++ freeL bk nm (i + 1) e r
def free1 (e : List ByteArray) (h : Nd) (ps : To) : List Nd := if h.k = 1 then (if ix e h.nm < 0 then [h] else []) else freeL h.k h.nm 0 e ps
theorem freeL_cons (bk : Int) (nm : ByteArray) (i : Nat) (e : List ByteArray) (h : Nd) (ps r : To) : freeL bk nm i e (.cons h ps r) = free1 (envOf bk nm i e) h ps ++ freeL bk nm (i + 1) e r := rfl
def frS (s : List Nd) (x : Nd) (e : List ByteArray) : List Nd := if ix e x.nm < 0 then s ++ [x] else s
theorem wk_free (out : Nd → List ByteArray → Nd) : ∀ (f : To) (bk : Int) (nm : ByteArray) (i : Nat) (s : List Nd) (e : List ByteArray), (wk frS out bk nm i s e f).1 = s ++ freeL bk nm i e f
  | .nil, _, _, _, s, _ => by simp [wk, freeL]
  | .cons h ps r, bk, nm, i, s, e => by
    rw [wk_cons, freeL_cons]
    simp only
    rw [wk_free out r]
    unfold wk1 free1
    by_cases h1 : h.k = 1
    · simp only [if_pos h1]
      unfold frS
      split <;> simp
    · simp only [if_neg h1]
      rw [wk_free out ps]; simp
theorem wk1_free (out : Nd → List ByteArray → Nd) (s : List Nd) (e : List ByteArray) (h : Nd) (ps : To) : (wk1 frS out s e h ps).1 = s ++ free1 e h ps := by
  unfold wk1 free1
  by_cases h1 : h.k = 1
  · simp only [if_pos h1]; unfold frS; split <;> simp
  · simp only [if_neg h1]; rw [wk_free out ps]
theorem alike_free : ∀ (f g : To) (bk : Int) (nm : ByteArray) (bk' : Int) (nm' : ByteArray) (i : Nat) (x y : List ByteArray), refAR bk nm bk' nm' i x y f g = true → (freeL bk nm i x f = [] ↔ freeL bk' nm' i y g = [])
  | .nil, .nil, _, _, _, _, _, _, _, _ => by simp [freeL]
  | .nil, .cons _ _ _, _, _, _, _, _, _, _, h => by simp [refAR] at h
  | .cons _ _ _, .nil, _, _, _, _, _, _, _, h => by simp [refAR] at h
  | .cons h ps r, .cons h' ps' r', bk, nm, bk', nm', i, x, y, e => by
    rw [refAR_cons, Bool.and_eq_true] at e
    have ih := alike_free r r' _ _ _ _ _ _ _ e.2
    rw [freeL_cons, freeL_cons, List.append_eq_nil_iff, List.append_eq_nil_iff, ih]
    have key : free1 (envOf bk nm i x) h ps = [] ↔ free1 (envOf bk' nm' i y) h' ps' = [] := by
      have e1 := e.1
      unfold refA1 at e1
      simp only [Bool.and_eq_true, beq_iff_eq] at e1
      obtain ⟨⟨⟨k1, k2⟩, k3⟩, k4⟩ := e1
      unfold free1
      by_cases h1 : h.k = 1
      · have h1' : h'.k = 1 := by rw [← k1]; exact h1
        rw [if_pos h1] at k4
        simp only [Bool.and_eq_true, beq_iff_eq] at k4
        rw [if_pos h1, if_pos h1', k4.1]
        split <;> simp
      · have h1' : ¬ h'.k = 1 := by rw [← k1]; exact h1
        rw [if_neg h1] at k4
        simp only [Bool.and_eq_true] at k4
        rw [if_neg h1, if_neg h1']
        exact alike_free ps ps' _ _ _ _ _ _ _ k4.2
    rw [key]
end Sc
end Go.Proofs.YtnfodiedalhlhaaDoor
end
section
namespace Go.Proofs.YtnfodiedalhlhaaDoor
namespace Cn
open Sc (envOf bindsB refAR refA1 refAR_cons ix ixE ixE_spec)
theorem findE_alike (s s' : ByteArray) : ∀ (e e' : Env) (k : Nat), e.map (·.2) = e'.map (·.2) → ixE (e.map (·.1)) s k = ixE (e'.map (·.1)) s' k → findE e s = findE e' s'
  | [], [], _, _, _ => rfl
  | [], _ :: _, _, h, _ => by simp at h
  | _ :: _, [], _, h, _ => by simp at h
  | (a, v) :: r, (a', v') :: r', k, h, hi => by
    simp only [List.map_cons, List.cons.injEq] at h
    obtain ⟨rfl, h⟩ := h
    simp only [List.map_cons, ixE] at hi
    unfold findE
    have key : ∀ (l : List ByteArray) (t : ByteArray), ixE l t (k + 1) ≠ (k : Int) := fun l t hc => by
      rcases ixE_spec l t (k + 1) with ⟨h1, _⟩ | ⟨j, h1, _⟩ <;> omega
    by_cases h1 : a = s
    · by_cases h2 : a' = s'
      · rw [if_pos h1, if_pos h2]
      · rw [if_pos h1, if_neg h2] at hi
        exact absurd hi.symm (key _ _)
    · by_cases h2 : a' = s'
      · rw [if_neg h1, if_pos h2] at hi
        exact absurd hi (key _ _)
      · rw [if_neg h1, if_neg h2] at hi
        rw [if_neg h1, if_neg h2]
        exact findE_alike s s' r r' (k + 1) h hi
theorem brings_find : ∀ (e : Env) (s : ByteArray), brings e s = (findE e s).getD 0
  | [], _ => rfl
  | x :: r, s => by
    unfold brings findE
    split
    · rfl
    · exact brings_find r s
def RelV {α : Type} (bk : Int) (nm : ByteArray) (bk' : Int) (nm' : ByteArray) (x y : List ByteArray) : Nat → List (Env → α) → List (Env → α) → Prop
  | _, [], [] => True
  | i, v :: vs, v' :: vs' => (∀ e e' : Env, e.map (·.1) = envOf bk nm i x → e'.map (·.1) = envOf bk' nm' i y → e.map (·.2) = e'.map (·.2) → v e = v' e') ∧ RelV bk nm bk' nm' x y (i + 1) vs vs'
  | _, _, _ => False
theorem RelV.getD {α : Type} {d : α} {bk : Int} {nm : ByteArray} {bk' : Int} {nm' : ByteArray} {x y : List ByteArray} : ∀ (i j : Nat) (vs vs' : List (Env → α)), RelV bk nm bk' nm' x y i vs vs' → ∀ e e' : Env, e.map (·.1) = envOf bk nm (i + j) x → e'.map (·.1) = envOf bk' nm' (i + j) y → e.map (·.2) = e'.map (·.2) →
    vs.getD j (fun _ => d) e = vs'.getD j (fun _ => d) e'
  | _, _, [], [], _, _, _, _, _, _ => by simp
  | _, _, [], _ :: _, h, _, _, _, _, _ => h.elim
  | _, _, _ :: _, [], h, _, _, _, _, _ => h.elim
  | i, 0, v :: vs, v' :: vs', h, e, e', h1, h2, h3 => h.1 e e' h1 h2 h3
  | i, j + 1, v :: vs, v' :: vs', h, e, e', h1, h2, h3 => by
    have := RelV.getD (d := d) (i + 1) j vs vs' h.2 e e' (by rw [h1]; congr 1; omega) (by rw [h2]; congr 1; omega) h3
    simpa using this
theorem RelV.fold {bk : Int} {nm : ByteArray} {bk' : Int} {nm' : ByteArray} {x y : List ByteArray} (hb : ∀ j, bindsB bk j = false) (hb' : ∀ j, bindsB bk' j = false) : ∀ (i : Nat) (vs vs' : List (Env → Int)), RelV bk nm bk' nm' x y i vs vs' → ∀ (n : Int) (e e' : Env), e.map (·.1) = x → e'.map (·.1) = y → e.map (·.2) = e'.map (·.2) →
    vs.foldl (fun n v => addL [n, v e]) n = vs'.foldl (fun n v => addL [n, v e']) n
  | _, [], [], _, _, _, _, _, _, _ => rfl
  | _, [], _ :: _, h, _, _, _, _, _, _ => h.elim
  | _, _ :: _, [], h, _, _, _, _, _, _ => h.elim
  | i, v :: vs, v' :: vs', h, n, e, e', h1, h2, h3 => by
    have hv : v e = v' e' := h.1 e e' (by unfold envOf; rw [hb]; exact h1) (by unfold envOf; rw [hb']; exact h2) h3
    simp only [List.foldl_cons]
    rw [hv]
    exact RelV.fold hb hb' (i + 1) vs vs' h.2 _ e e' h1 h2 h3
theorem env_cons (k : Int) (nm : ByteArray) (j : Nat) (x : List ByteArray) (h : bindsB k j = true) : envOf k nm j x = nm :: x := by unfold envOf; rw [h]; rfl
theorem env_same (k : Int) (nm : ByteArray) (j : Nat) (x : List ByteArray) (h : bindsB k j = false) : envOf k nm j x = x := by unfold envOf; rw [h]; rfl
theorem oneC_alike (own : Int → Int) (rc : Int) (h h' : Nd) (hk : h.k = h'.k) (vs vs' : List (Env → Int)) (e e' : Env) (hv : e.map (·.2) = e'.map (·.2)) (h1 : h.k = 1 → ix (e.map (·.1)) h.nm = ix (e'.map (·.1)) h'.nm) (hr : h.k ≠ 1 → RelV h.k h.nm h'.k h'.nm (e.map (·.1)) (e'.map (·.1)) 0 vs vs') :
    oneC own rc h vs e = oneC own rc h' vs' e' := by
  unfold oneC
  rw [← hk]
  by_cases c1 : h.k = 1
  · rw [if_pos c1, if_pos c1, brings_find, brings_find, findE_alike _ _ e e' 0 hv (h1 c1)]
  rw [if_neg c1, if_neg c1]
  have r := hr c1
  rw [← hk] at r
  by_cases c4 : h.k = 4
  · rw [if_pos c4, if_pos c4]
    have b : ∀ j, bindsB h.k j = true := fun j => by rw [c4]; rfl
    rw [RelV.getD (d := 0) 0 0 vs vs' r ((h.nm, 0) :: e) ((h'.nm, 0) :: e') (by rw [env_cons _ _ _ _ (b _)]; rfl) (by rw [env_cons _ _ _ _ (b _)]; rfl) (by simp [hv])]
  rw [if_neg c4, if_neg c4]
  by_cases c6 : h.k = 6
  · rw [if_pos c6, if_pos c6]
    have b0 : bindsB h.k 0 = false := by rw [c6]; rfl
    have b1 : bindsB h.k 1 = true := by rw [c6]; rfl
    have v0 := RelV.getD (d := 0) 0 0 vs vs' r e e' (by rw [env_same _ _ _ _ b0]) (by rw [env_same _ _ _ _ b0]) hv
    rw [v0]
    rw [RelV.getD (d := 0) 0 1 vs vs' r ((h.nm, vs'.getD 0 (fun _ => 0) e') :: e) ((h'.nm, vs'.getD 0 (fun _ => 0) e') :: e') (by rw [env_cons _ _ _ _ b1]; rfl) (by rw [env_cons _ _ _ _ b1]; rfl) (by simp [hv])]
  rw [if_neg c6, if_neg c6]
  by_cases c7 : h.k = 7
  · rw [if_pos c7, if_pos c7]
    have b : ∀ j, bindsB h.k j = true := fun j => by rw [c7]; rfl
    have v0 := RelV.getD (d := 0) 0 0 vs vs' r ((h.nm, 0) :: e) ((h'.nm, 0) :: e') (by rw [env_cons _ _ _ _ (b _)]; rfl) (by rw [env_cons _ _ _ _ (b _)]; rfl) (by simp [hv])
    rw [v0]
    rw [RelV.getD (d := 0) 0 1 vs vs' r ((h.nm, addL [rc, vs'.getD 0 (fun _ => 0) ((h'.nm, 0) :: e')]) :: e) ((h'.nm, addL [rc, vs'.getD 0 (fun _ => 0) ((h'.nm, 0) :: e')]) :: e') (by rw [env_cons _ _ _ _ (b _)]; rfl) (by rw [env_cons _ _ _ _ (b _)]; rfl) (by simp [hv])]
  rw [if_neg c7, if_neg c7]
  have b : ∀ j, bindsB h.k j = false := fun j => by unfold bindsB; simp [c4, c6, c7]
  exact RelV.fold b b 0 vs vs' r _ e e' rfl rfl hv
theorem alike_parts {x y : List ByteArray} {h : Nd} {ps : To} {h' : Nd} {ps' : To} (e : refA1 x y h ps h' ps' = true) : h.k = h'.k ∧ (h.k = 1 → ix x h.nm = ix y h'.nm) ∧ (h.k ≠ 1 → refAR h.k h.nm h'.k h'.nm 0 x y ps ps' = true) := by
  unfold refA1 at e
  simp only [Bool.and_eq_true, beq_iff_eq] at e
  obtain ⟨⟨⟨k1, k2⟩, k3⟩, k4⟩ := e
  refine ⟨k1, fun c => ?_, fun c => ?_⟩
  · rw [if_pos c] at k4
    simp only [Bool.and_eq_true, beq_iff_eq] at k4
    exact k4.1
  · rw [if_neg c] at k4
    simp only [Bool.and_eq_true] at k4
    exact k4.2
theorem alike_rel (own : Int → Int) (rc : Int) : ∀ (f g : To) (bk : Int) (nm : ByteArray) (bk' : Int) (nm' : ByteArray) (i : Nat) (x y : List ByteArray), refAR bk nm bk' nm' i x y f g = true → RelV bk nm bk' nm' x y i (valsC own rc f) (valsC own rc g)
  | .nil, .nil, _, _, _, _, _, _, _, _ => trivial
  | .nil, .cons _ _ _, _, _, _, _, _, _, _, h => by simp [refAR] at h
  | .cons _ _ _, .nil, _, _, _, _, _, _, _, h => by simp [refAR] at h
  | .cons h ps r, .cons h' ps' r', bk, nm, bk', nm', i, x, y, e => by
    rw [refAR_cons, Bool.and_eq_true] at e
    refine ⟨fun e1 e1' hx hy hv => ?_, alike_rel own rc r r' _ _ _ _ _ _ _ e.2⟩
    obtain ⟨k1, k2, k3⟩ := alike_parts e.1
    refine oneC_alike own rc h h' k1 _ _ e1 e1' hv (fun c => by rw [hx, hy]; exact k2 c) (fun c => ?_)
    rw [hx, hy]
    exact alike_rel own rc ps ps' _ _ _ _ _ _ _ (k3 c)
theorem alike_cnt (own : Int → Int) (rc : Int) {h : Nd} {ps : To} {h' : Nd} {ps' : To} (e : refA1 [] [] h ps h' ps' = true) : cnt own rc h ps [] = cnt own rc h' ps' [] := by
  obtain ⟨k1, k2, k3⟩ := alike_parts e
  exact oneC_alike own rc h h' k1 _ _ [] [] rfl k2 (fun c => alike_rel own rc ps ps' _ _ _ _ _ _ _ (k3 c))
theorem envU_names (h : Nd) (place i : Nat) (e : Env) : (envU h place i e).map (·.1) = envOf h.k h.nm i (e.map (·.1)) := by
  unfold envU envOf; split <;> rfl
theorem envU_nums (h h' : Nd) (hk : h.k = h'.k) (place i : Nat) (e e' : Env) (hv : e.map (·.2) = e'.map (·.2)) : (envU h place i e).map (·.2) = (envU h' place i e').map (·.2) := by
  unfold envU; rw [← hk]; split
  · simp [hv]
  · exact hv
theorem foldU_alike (h h' : Nd) (hk : h.k = h'.k) (place : Nat) {x y : List ByteArray} : ∀ (i : Nat) (vs vs' : List (Env → List Int → List Int)), RelV h.k h.nm h'.k h'.nm x y i vs vs' → ∀ (e e' : Env) (out : List Int), e.map (·.1) = x → e'.map (·.1) = y → e.map (·.2) = e'.map (·.2) →
    foldU h place vs i e out = foldU h' place vs' i e' out
  | _, [], [], _, _, _, _, _, _, _ => rfl
  | _, [], _ :: _, h, _, _, _, _, _, _ => h.elim
  | _, _ :: _, [], h, _, _, _, _, _, _ => h.elim
  | i, v :: vs, v' :: vs', hr, e, e', out, h1, h2, h3 => by
    have hv := hr.1 (envU h place i e) (envU h' place i e') (by rw [envU_names, h1]) (by rw [envU_names, h2]) (envU_nums h h' hk place i e e' h3)
    unfold foldU
    rw [hv]
    exact foldU_alike h h' hk place (i + 1) vs vs' hr.2 e e' _ h1 h2 h3
theorem oneU_alike (h h' : Nd) (hk : h.k = h'.k) (vs vs' : List (Env → List Int → List Int)) (e e' : Env) (hv : e.map (·.2) = e'.map (·.2)) (h1 : h.k = 1 → ix (e.map (·.1)) h.nm = ix (e'.map (·.1)) h'.nm) (hr : h.k ≠ 1 → RelV h.k h.nm h'.k h'.nm (e.map (·.1)) (e'.map (·.1)) 0 vs vs') (out : List Int) :
    oneU h vs e out = oneU h' vs' e' out := by
  unfold oneU
  rw [← hk]
  by_cases c1 : h.k = 1
  · rw [if_pos c1, if_pos c1]
    unfold varU
    rw [findE_alike _ _ e e' 0 hv (h1 c1)]
  rw [if_neg c1, if_neg c1]
  have ho : openU h out = openU h' out := by unfold openU; rw [hk]
  rw [ho]
  exact foldU_alike h h' hk _ 0 vs vs' (hr c1) e e' _ rfl rfl hv
theorem alike_relU : ∀ (f g : To) (bk : Int) (nm : ByteArray) (bk' : Int) (nm' : ByteArray) (i : Nat) (x y : List ByteArray), refAR bk nm bk' nm' i x y f g = true → RelV bk nm bk' nm' x y i (valsU f) (valsU g)
  | .nil, .nil, _, _, _, _, _, _, _, _ => trivial
  | .nil, .cons _ _ _, _, _, _, _, _, _, _, h => by simp [refAR] at h
  | .cons _ _ _, .nil, _, _, _, _, _, _, _, h => by simp [refAR] at h
  | .cons h ps r, .cons h' ps' r', bk, nm, bk', nm', i, x, y, e => by
    rw [refAR_cons, Bool.and_eq_true] at e
    refine ⟨fun e1 e1' hx hy hv => ?_, alike_relU r r' _ _ _ _ _ _ _ e.2⟩
    obtain ⟨k1, k2, k3⟩ := alike_parts e.1
    funext out
    refine oneU_alike h h' k1 _ _ e1 e1' hv (fun c => by rw [hx, hy]; exact k2 c) (fun c => ?_) out
    rw [hx, hy]
    exact alike_relU ps ps' _ _ _ _ _ _ _ (k3 c)
theorem alike_uses {h : Nd} {ps : To} {h' : Nd} {ps' : To} (e : refA1 [] [] h ps h' ps' = true) : usesU h ps [] [] = usesU h' ps' [] [] := by
  obtain ⟨k1, k2, k3⟩ := alike_parts e
  exact oneU_alike h h' k1 _ _ [] [] rfl k2 (fun c => alike_relU ps ps' _ _ _ _ _ _ _ (k3 c)) []
end Cn
end Go.Proofs.YtnfodiedalhlhaaDoor
end
section
namespace Go.Proofs.YtnfodiedalhlhaaDoor
open Go.RowKit
namespace Sc
def NmIn (T : Nat → Prop) (w : World) (o : Option Addr) (n : Nat) (e : List ByteArray) : Prop :=
  n = e.length ∧ n ≤ maxLen ∧ (0 < n → ∃ b, o = some ⟨b, 0, none⟩ ∧ T b ∧ ∀ i s, e.reverse[i]? = some s → w.cell? ⟨b, i, none⟩ = some (.string s))
theorem NmIn.nil (T : Nat → Prop) (w : World) (o : Option Addr) : NmIn T w o 0 [] := ⟨rfl, Nat.zero_le _, fun h => absurd h (Nat.lt_irrefl _)⟩
theorem NmIn.lt {T : Nat → Prop} {w : World} {b n : Nat} {e : List ByteArray} (h : NmIn T w (some ⟨b, 0, none⟩) n e) (hn : 0 < n) : b < w.heap.size ∧ T b := by
  obtain ⟨b', he, ht, hc⟩ := h.2.2 hn
  injection he with he; injection he with he
  subst he
  have hl : 0 < e.reverse.length := by simp; have := h.1; omega
  exact ⟨World.block_lt_of_cell? w _ (hc 0 _ (List.getElem?_eq_getElem hl)), ht⟩
theorem NmIn.fr {T T' S : Nat → Prop} {w w' : World} {o : Option Addr} {n : Nat} {e : List ByteArray} (h : NmIn T w o n e) (hf : Fr S w w') (hT : ∀ k, k < w.heap.size → T k → T' k ∧ ¬ S k) : NmIn T' w' o n e := by
  refine ⟨h.1, h.2.1, fun hn => ?_⟩
  obtain ⟨b, he, ht, hc⟩ := h.2.2 hn
  subst he
  have hl := (h.lt hn).1
  obtain ⟨h1, h2⟩ := hT b hl ht
  exact ⟨b, rfl, h1, fun i s hi => (hf.cellb hl h2).trans (hc i s hi)⟩
theorem NmIn.stay {T : Nat → Prop} {w w' : World} {o : Option Addr} {n : Nat} {e : List ByteArray} (h : NmIn T w o n e) (hq : Quiet0 w w') : NmIn T w' o n e := h.fr hq (fun _ _ hk => ⟨hk, fun h => h⟩)
theorem NmIn.at {T : Nat → Prop} {w : World} {o : Option Addr} {n : Nat} {e : List ByteArray} (h : NmIn T w o n e) {i : Nat} {s : ByteArray} (hi : e[i]? = some s) : ∃ b, o = some ⟨b, 0, none⟩ ∧ w.cell? ⟨b, n - 1 - i, none⟩ = some (.string s) := by
  have hl := (List.getElem?_eq_some_iff.1 hi).1
  obtain ⟨b, he, _, hc⟩ := h.2.2 (by have := h.1; omega)
  refine ⟨b, he, hc _ s ?_⟩
  rw [List.getElem?_reverse (by have := h.1; omega), h.1]
  rw [← hi]; congr 1; omega
theorem NmIn.of_own {T : Nat → Prop} {w : World} {base g n c : Nat} {e : List ByteArray} {s : ByteArray} (ho : w.ownsRow base 9 1 (.slice (some ⟨g, 0, none⟩) n c) n (e.reverse.map Value.string ++ [.string s])) (hn : n = e.length + 1) (hm : n ≤ maxLen) (ht : T g) : NmIn T w (some ⟨g, 0, none⟩) n (s :: e) := by
  refine ⟨by simpa using hn, hm, fun _ => ⟨g, rfl, ht, fun i u hi => ?_⟩⟩
  have hx : (e.reverse.map Value.string ++ [.string s])[i]? = some (.string u) := by
    have : e.reverse.map Value.string ++ [Value.string s] = ((s :: e).reverse).map Value.string := by simp
    rw [this, List.getElem?_map, hi]; rfl
  have := ho.cells (g := g) rfl i (.string u) hx
  simpa [Addr.add_lit] using this
theorem elemStr : Elem Tryd.prog 40 9 (.string ⟨#[]⟩) 1 16 :=
  ⟨Tryd.underlying40, by kernel_rfl, by decide, by decide⟩
theorem NmIn.none {T : Nat → Prop} {w : World} {n : Nat} {e : List ByteArray} (h : NmIn T w none n e) : n = 0 := by
  rcases Nat.eq_zero_or_pos n with h0 | h0
  · exact h0
  · obtain ⟨b, he, _⟩ := h.2.2 h0; cases he
theorem names_cells {T : Nat → Prop} {w : World} {o : Option Addr} {n : Nat} {e : List ByteArray} (h : NmIn T w o n e) : ∀ b, o = some b → ∀ j u, (e.reverse.map Value.string)[j]? = some u → w.cell? (b.add j) = some u := by
  rintro b rfl j u hj
  have hl := (List.getElem?_eq_some_iff.1 hj).1
  obtain ⟨b', he, _, hc⟩ := h.2.2 (by have := h.1; simp at hl; omega)
  injection he with he
  subst he
  rw [List.getElem?_map] at hj
  obtain ⟨s, hs, rfl⟩ := Option.map_eq_some_iff.1 hj
  rw [Addr.add_lit, Nat.zero_add]
  exact hc j s hs
theorem ix_take {e : List ByteArray} {s : ByteArray} {i : Nat} (hn : s ∉ e.take i) (hi : e.length ≤ i) : ix e s = -1 := ixE_miss (by rwa [List.take_of_length_le hi] at hn)
theorem take_no {e : List ByteArray} {s a : ByteArray} {i : Nat} (hn : s ∉ e.take i) (hi : e[i]? = some a) (ha : a ≠ s) : s ∉ e.take (i + 1) := by
  rw [List.take_add_one, hi]
  simp only [Option.toList_some, List.mem_append, List.mem_singleton, not_or]
  exact ⟨hn, fun h => ha h.symm⟩
theorem str_eq {a s : ByteArray} : (a.toList == s.toList) = true ↔ a = s := by
  rw [beq_iff_eq]
  constructor
  · intro h
    rw [ByteArray.toList_eq, ByteArray.toList_eq] at h
    exact ByteArray.ext (Array.toList_inj.1 h)
  · intro h; rw [h]
end Sc
end Go.Proofs.YtnfodiedalhlhaaDoor
end
section
namespace Go.Proofs.YtnfodiedalhlhaaDoor
open Go.RowKit
namespace Sc
theorem binds_any (k : Int) (i : Nat) (w : World) : Calls Tryd.prog 47 #[.int .i64 k, .int .i64 (i : Nat)] w fun e w' => e = .returned (.bool (bindsB k i)) ∧ w = w' := by
  unfold bindsB
  have e1 : ((i : Int) == 1) = (i == 1) := by rw [Bool.eq_iff_iff, beq_iff_eq, beq_iff_eq]; omega
  generalize (i == 1) = r at *
  cases h4 : (k == 4)
  · cases h7 : (k == 7)
    · cases h6 : (k == 6)
      · go_enter Tryd.func47, Tryd.ntmps47
        go_wp2_with fail
        go_ret
        exact ⟨rfl, rfl⟩
      · go_enter Tryd.func47, Tryd.ntmps47
        go_wp2_with fail
        go_ret
        exact ⟨by simp, rfl⟩
    · go_enter Tryd.func47, Tryd.ntmps47
      go_wp2_with fail
      go_ret
      exact ⟨rfl, rfl⟩
  · go_enter Tryd.func47, Tryd.ntmps47
    go_wp2_with fail
    go_ret
    exact ⟨rfl, rfl⟩
theorem clip_any (o : Option Addr) (n c : Nat) (w : World) (hc : n ≤ c) (_ : o = none → n = 0) : Calls Tryd.prog 55 #[.slice o n c] w fun e w' => e = .returned (.slice o n n) ∧ w = w' := by
  go_enter Tryd.func55, Tryd.ntmps55
  go_wp2_with fail
  go_ret
  exact ⟨rfl, rfl⟩
set_option maxHeartbeats 1000000 in
theorem index_any (T : Nat → Prop) (e : List ByteArray) (s : ByteArray) (o : Option Addr) (n c : Nat) (w : World) (h : NmIn T w o n e) (hz : n ≤ 1000000) : Calls Tryd.prog 53 #[.slice o n c, .string s] w fun x w' => x = .returned (.int .i64 (ix e s)) ∧ w = w' := by
  have H := Lib.hid h
  have HN := Lib.hid h.1
  clear h
  go_enter Tryd.func53, Tryd.ntmps53
  go_wp2_with fail
  go_loopw [8] (fun t wr => ∃ i : Nat, t = .int .i64 i ∧ i ≤ n ∧ s ∉ e.take i ∧ w = wr) (fun t _ => n - (intOf t).toNat)
  case atStart => exact ⟨0, rfl, Nat.zero_le _, by simp, rfl⟩
  case round =>
    obtain ⟨i, rfl, hi, hns, rfl⟩ := hrel
    by_cases hlt : i < n
    · have hlt' : (i : Int) < n := by omega
      obtain ⟨a, ha⟩ : ∃ a, e[i]? = some a := ⟨_, List.getElem?_eq_getElem (by have := HN.out; omega)⟩
      obtain ⟨b, rfl, c0⟩ := H.out.at ha
      have hidx : ((n : Int) - 1 - i) = ((n - 1 - i : Nat) : Int) := by omega
      have hb1 : (0 : Int) ≤ (n : Int) - 1 - i := by omega
      have hb2 : (n : Int) - 1 - i < n := by omega
      have HNS := Lib.hid hns
      have HA := Lib.hid ha
      clear hns ha
      cases hx : (a.toList == s.toList)
      · go_wp2_with fail
        go_roundw
        case rel => exact ⟨i + 1, by go_num, by omega, take_no HNS.out HA.out (fun e => by rw [str_eq.2 e] at hx; cases hx), trivial⟩
        case measure => simp [intOf]; omega
      · have HR : Hid (ix e s = i) := ixE_hit (by rw [← str_eq.1 hx]; exact HA.out) HNS.out
        go_wp2_with fail
        go_ret
        exact ⟨by first | (rw [HR.out]; done) | (rw [HR.out]; rfl), rfl⟩
    · have hlt' : ¬ (i : Int) < n := by omega
      have HR : Hid (ix e s = -1) := ix_take hns (by have := HN.out; omega)
      clear hns
      go_wp2_with fail
      go_ret
      exact ⟨by first | (rw [HR.out]; done) | (rw [HR.out]; rfl), rfl⟩
set_option maxHeartbeats 1000000 in
theorem refIndex_any (T : Nat → Prop) (e : List ByteArray) (s : ByteArray) (o : Option Addr) (n c : Nat) (w : World) (h : NmIn T w o n e) (hz : n ≤ 1000000) : Calls Tryd.prog 20 #[.slice o n c, .string s] w fun x w' => x = .returned (.int .i64 (ix e s)) ∧ w = w' := by
  have H := Lib.hid h
  have HN := Lib.hid h.1
  clear h
  go_enter Tryd.func20, Tryd.ntmps20
  go_wp2_with fail
  go_loopw [5] (fun t wr => ∃ (i : Nat) (p : Int), t = .int .i64 p ∧ p = (n : Int) - 1 - i ∧ i ≤ n ∧ s ∉ e.take i ∧ w = wr) (fun t _ => (intOf t + 1).toNat)
  case atStart => exact ⟨0, (n : Int) - 1, rfl, by omega, Nat.zero_le _, by simp, rfl⟩
  case round =>
    obtain ⟨i, p, rfl, hp, hi, hns, rfl⟩ := hrel
    by_cases hlt : i < n
    · have hp0 : (0 : Int) ≤ p := by omega
      have hp0' : p ≥ 0 := hp0
      have hpn : p < n := by omega
      obtain ⟨q, hq⟩ : ∃ q : Nat, p = q := ⟨p.toNat, by omega⟩
      subst hq
      obtain ⟨a, ha⟩ : ∃ a, e[i]? = some a := ⟨_, List.getElem?_eq_getElem (by have := HN.out; omega)⟩
      obtain ⟨b, rfl, c0⟩ := H.out.at ha
      rw [show n - 1 - i = q from by omega] at c0
      have hidx : (n : Int) - 1 - q = i := by omega
      have HNS := Lib.hid hns
      have HA := Lib.hid ha
      have HP := Lib.hid hp
      clear hns ha hp
      cases hx : (a.toList == s.toList)
      · go_wp2_with fail
        go_roundw
        case rel => exact ⟨i + 1, (q : Int) - 1, rfl, by have := HP.out; omega, by omega, take_no HNS.out HA.out (fun e => by rw [str_eq.2 e] at hx; cases hx), trivial⟩
        case measure => simp [intOf] <;> omega
      · have HR : Hid (ix e s = i) := ixE_hit (by rw [← str_eq.1 hx]; exact HA.out) HNS.out
        go_wp2_with fail
        go_ret
        exact ⟨by first | (rw [HR.out]; done) | (rw [HR.out]; rfl), rfl⟩
    · have hp0 : ¬ (0 : Int) ≤ p := by omega
      have hp0' : ¬ p ≥ 0 := hp0
      have HR : Hid (ix e s = -1) := ix_take hns (by have := HN.out; omega)
      clear hns hp
      go_wp2_with fail
      go_ret
      exact ⟨by first | (rw [HR.out]; done) | (rw [HR.out]; rfl), rfl⟩
end Sc
end Go.Proofs.YtnfodiedalhlhaaDoor
end
section
namespace Go.Proofs.YtnfodiedalhlhaaDoor
open Go.RowKit Go.Shelf
namespace Sc
def StrAt (w : World) (o : Option Addr) (l : List ByteArray) : Prop := ∀ j s, l[j]? = some s → ∃ b off, o = some ⟨b, off, none⟩ ∧ w.cell? ⟨b, off + j, none⟩ = some (.string s)
theorem StrAt.stay {w w' : World} {o : Option Addr} {l : List ByteArray} (h : StrAt w o l) (hq : Quiet0 w w') : StrAt w' o l := by
  intro j s hs
  obtain ⟨b, off, h0, h1⟩ := h j s hs
  exact ⟨b, off, h0, hq.at h1⟩
def strs (l : List ByteArray) : List Value := l.map .string
structure StrRow (w : World) (B : Nat) (v : Value) (l : List ByteArray) : Prop where
  own : w.ownsRow 0 9 1 v l.length (strs l)
  low : ∀ k, v.ownBlock = some k → B ≤ k
theorem StrRow.nil (w : World) (B : Nat) : StrRow w B (.slice none 0 0) [] := ⟨World.ownsRow_nil _ _ _ _, fun k hk => (by cases hk)⟩
theorem StrRow.stay {w w' : World} {B : Nat} {v : Value} {l : List ByteArray} (h : StrRow w B v l) (hf : Quiet0 w w') : StrRow w' B v l :=
  ⟨ownsRow_fr h.own hf (fun _ _ h => h), h.low⟩
theorem StrRow.form {w : World} {B : Nat} {v : Value} {l : List ByteArray} (h : StrRow w B v l) : ∃ o c, v = .slice o l.length c ∧ l.length ≤ maxLen ∧ StrAt w o l := by
  rcases h.own.2 with ⟨h1, h2⟩ | ⟨g, cap, cur, rfl, h2, h3, h4, h5, _⟩
  · have e : l = [] := List.eq_nil_of_length_eq_zero h2
    subst e
    exact ⟨none, 0, h1, Nat.zero_le _, fun j s hs => by simp at hs⟩
  · refine ⟨_, cap, rfl, Nat.le_trans h4 h5, fun j s hs => ⟨g, 0, rfl, ?_⟩⟩
    have := h.own.cells (g := g) rfl j (.string s) (by unfold strs; rw [List.getElem?_map, hs]; rfl)
    simpa [Addr.add_lit] using this
theorem StrRow.snoc {W w1 : World} {B : Nat} {v : Value} {l : List ByteArray} {s : ByteArray} {g c : Nat} (hr : StrRow W B v l)
    (ho : w1.ownsRow 0 9 1 (.slice (some ⟨g, 0, none⟩) (l.length + 1) c) (l.length + 1) (strs l ++ #[Value.string s].toList)) (hg : v.ownBlock = some g ∨ W.heap.size ≤ g) (hB : B ≤ W.heap.size) :
    StrRow w1 B (.slice (some ⟨g, 0, none⟩) (l.length + 1) c) (l ++ [s]) := by
  refine ⟨?_, fun k hk => ?_⟩
  · have e : strs (l ++ [s]) = strs l ++ #[Value.string s].toList := by simp [strs]
    rw [e, List.length_append]; exact ho
  · simp [Value.ownBlock] at hk
    subst hk
    rcases hg with h | h
    · exact hr.low g h
    · omega
end Sc
end Go.Proofs.YtnfodiedalhlhaaDoor
end
