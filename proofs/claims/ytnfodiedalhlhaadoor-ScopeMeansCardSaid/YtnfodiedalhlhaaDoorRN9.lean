/-
  Texts laid together (TeSound): laws and walks, with their conditions in their statements.
-/
import Derived.Deep.MidRow
import Derived.Test.YtnfodiedalhlhaaDoorRN6
import Derived.Test.YtnfodiedalhlhaaDoorRN8
section
namespace Go.Proofs.YtnfodiedalhlhaaDoor
open Go.RowKit
def kName (k : Int) : Bool := k == 1 || k == 4 || k == 6 || k == 7
def kTop (k : Int) : Int := if k == 1 then 9223372036854775807 else if k == 2 then 999999999 else if k == 3 then 1 else 0
def kLeast (k : Int) : Int := if k == 4 || k == 10 then 1 else if k == 5 || k == 6 || k == 7 || k == 9 then 2 else if k == 8 then 3 else 0
def kMost (k : Int) : Int := if k == 4 || k == 10 then 1 else if k == 5 || k == 6 || k == 7 then 2 else if k == 8 then 3 else if k == 9 then 8 else 0
def closedT (tk tn : Int) (tp : Fo) : Bool := rightT tk tn tp && (Fo.vars [] (.cons tk tn tp .nil)).isEmpty
def namedB (h : Nd) : Bool := if kName h.k then Lx.nameB h.nm.data.toList else h.nm.toList.isEmpty
def typedB (h : Nd) : Bool := if h.k == 10 then closedT h.tk h.tn h.tp else sameT h.tk h.tn h.tp 0 0 .nil
def soundB (h : Nd) (m : Nat) : Bool :=
  decide (1 ≤ h.k) && decide (h.k ≤ 10) && namedB h && typedB h && decide (0 ≤ h.n) && decide (h.n ≤ kTop h.k) && decide (kLeast h.k ≤ m) && decide ((m : Int) ≤ kMost h.k)
def shapeCells : Array Value := #[
  .bool false, .bool false, .int .i64 0, .int .i64 0, .int .i64 0,
  .bool true, .bool false, .int .i64 0, .int .i64 0, .int .i64 9223372036854775807,
  .bool false, .bool false, .int .i64 0, .int .i64 0, .int .i64 999999999,
  .bool false, .bool false, .int .i64 0, .int .i64 0, .int .i64 1,
  .bool true, .bool false, .int .i64 1, .int .i64 1, .int .i64 0,
  .bool false, .bool false, .int .i64 2, .int .i64 2, .int .i64 0,
  .bool true, .bool false, .int .i64 2, .int .i64 2, .int .i64 0,
  .bool true, .bool false, .int .i64 2, .int .i64 2, .int .i64 0,
  .bool false, .bool false, .int .i64 3, .int .i64 3, .int .i64 0,
  .bool false, .bool false, .int .i64 2, .int .i64 8, .int .i64 0,
  .bool false, .bool true, .int .i64 1, .int .i64 1, .int .i64 0]
theorem results_one {P : Program} {fn : Func} {tmps : Array Value} {t : TypeId} {a : Tmp} {ad : Addr} {v : Value} {w : World} (hr : fn.results = #[.cell a t]) (hx : tmps.getD a undef = .pointer (some ad)) (hl : (loadVar t ad).run P w = .ok v w) : (results fn tmps).run P w = .ok v w := by
  have hx2 : tmps[a]?.getD undef = .pointer (some ad) := by simpa using hx
  simp [results, hr, asAddr, hx2, hl]
theorem wpList_build_as {P : Program} {ops : Array Oper} {rest : List Oper} {o : Oper} {a : Act} {w : World} {Q : Exit → Act → World → Prop} (hg : o.guard = none) (t : TypeId) (parts : Array (Nat × Operand)) (ho : o.op = .build t parts)
    (cs : Array Value) (hc : P.built t (parts.map fun (i, x) => (i, a.eval x)).toList = some cs)
    (h : wpList P ops Q rest (a.put o.dst (.agg cs)) w) : wpList P ops Q (o :: rest) a w :=
  wpList_build hg t parts ho (by rw [hc]; rfl) (by rw [hc]; exact h)
def zeroCells : Array Value := #[
  .bool false, .bool false, .int .i64 0, .int .i64 0, .int .i64 0, .bool false, .bool false, .int .i64 0, .int .i64 0, .int .i64 0,
  .bool false, .bool false, .int .i64 0, .int .i64 0, .int .i64 0, .bool false, .bool false, .int .i64 0, .int .i64 0, .int .i64 0,
  .bool false, .bool false, .int .i64 0, .int .i64 0, .int .i64 0, .bool false, .bool false, .int .i64 0, .int .i64 0, .int .i64 0,
  .bool false, .bool false, .int .i64 0, .int .i64 0, .int .i64 0, .bool false, .bool false, .int .i64 0, .int .i64 0, .int .i64 0,
  .bool false, .bool false, .int .i64 0, .int .i64 0, .int .i64 0, .bool false, .bool false, .int .i64 0, .int .i64 0, .int .i64 0,
  .bool false, .bool false, .int .i64 0, .int .i64 0, .int .i64 0]
set_option maxHeartbeats 4000000 in
set_option maxRecDepth 100000 in
theorem shapes_any (w : World) : Calls Tryd.prog 100 #[] w fun e w' => e = .returned (.agg shapeCells) ∧ Quiet0 w w' := by
  obtain ⟨W0, hW0⟩ : ∃ W0, W0 = w.alloc (.cells zeroCells 112) := ⟨_, rfl⟩
  obtain ⟨B, hB⟩ : ∃ B, B = w.heap.size := ⟨_, rfl⟩
  have hb0 : W0.heap[B]? = some (.cells zeroCells 112 (0, 0)) := by rw [hW0, hB]; exact heap_alloc_new _ _
  have HQ0 : Hid (Quiet0 w W0) := by rw [hW0]; exact Quiet0.alloc _ _
  have HB0 := Lib.hid hb0
  have HBE := Lib.hid hB
  have hi : (Tryd.prog.info? 112).map (·.size) = some 55 := by kernel_rfl
  have HI := Lib.hid hi
  clear hi hb0
  go_enter Tryd.func100, Tryd.ntmps100
  go_upto_region 1 with fail
  change Code.wp _ _ _ _ (w.alloc (.cells zeroCells 112))
  rw [← hW0, ← hB]
  clear hW0 hB
  refine wp_region_lit ?_
  with_reducible refine wpList_build_as (by rfl) 111 _ (by rfl) #[.bool true, .bool false, .int .i64 0, .int .i64 0, .int .i64 9223372036854775807] (by kernel_rfl) ?_
  simp only [Act.put, List.setIfInBounds_toArray, List.set_cons_zero, List.set_cons_succ]
  with_reducible refine wpList_build_as (by rfl) 111 _ (by rfl) #[.bool false, .bool false, .int .i64 0, .int .i64 0, .int .i64 999999999] (by kernel_rfl) ?_
  simp only [Act.put, List.setIfInBounds_toArray, List.set_cons_zero, List.set_cons_succ]
  with_reducible refine wpList_build_as (by rfl) 111 _ (by rfl) #[.bool false, .bool false, .int .i64 0, .int .i64 0, .int .i64 1] (by kernel_rfl) ?_
  simp only [Act.put, List.setIfInBounds_toArray, List.set_cons_zero, List.set_cons_succ]
  with_reducible refine wpList_build_as (by rfl) 111 _ (by rfl) #[.bool true, .bool false, .int .i64 1, .int .i64 1, .int .i64 0] (by kernel_rfl) ?_
  simp only [Act.put, List.setIfInBounds_toArray, List.set_cons_zero, List.set_cons_succ]
  with_reducible refine wpList_build_as (by rfl) 111 _ (by rfl) #[.bool false, .bool false, .int .i64 2, .int .i64 2, .int .i64 0] (by kernel_rfl) ?_
  simp only [Act.put, List.setIfInBounds_toArray, List.set_cons_zero, List.set_cons_succ]
  with_reducible refine wpList_build_as (by rfl) 111 _ (by rfl) #[.bool true, .bool false, .int .i64 2, .int .i64 2, .int .i64 0] (by kernel_rfl) ?_
  simp only [Act.put, List.setIfInBounds_toArray, List.set_cons_zero, List.set_cons_succ]
  with_reducible refine wpList_build_as (by rfl) 111 _ (by rfl) #[.bool true, .bool false, .int .i64 2, .int .i64 2, .int .i64 0] (by kernel_rfl) ?_
  simp only [Act.put, List.setIfInBounds_toArray, List.set_cons_zero, List.set_cons_succ]
  with_reducible refine wpList_build_as (by rfl) 111 _ (by rfl) #[.bool false, .bool false, .int .i64 3, .int .i64 3, .int .i64 0] (by kernel_rfl) ?_
  simp only [Act.put, List.setIfInBounds_toArray, List.set_cons_zero, List.set_cons_succ]
  with_reducible refine wpList_build_as (by rfl) 111 _ (by rfl) #[.bool false, .bool false, .int .i64 2, .int .i64 8, .int .i64 0] (by kernel_rfl) ?_
  simp only [Act.put, List.setIfInBounds_toArray, List.set_cons_zero, List.set_cons_succ]
  with_reducible refine wpList_build_as (by rfl) 111 _ (by rfl) #[.bool false, .bool true, .int .i64 1, .int .i64 1, .int .i64 0] (by kernel_rfl) ?_
  simp only [Act.put, List.setIfInBounds_toArray, List.set_cons_zero, List.set_cons_succ]
  with_reducible refine wpList_build_as (by rfl) 112 _ (by rfl) shapeCells (by kernel_rfl) ?_
  simp only [Act.put, List.setIfInBounds_toArray, List.set_cons_zero, List.set_cons_succ]
  with_reducible refine wpList_store_row ?e1 112 (.tmp 0) (.tmp 11) ?e2 B shapeCells ?e3 ?e4 112 zeroCells HB0.out ?e5 ?e6 ?e7 ?_
  case e1 => rfl
  case e2 => rfl
  case e3 => rfl
  case e4 => rfl
  case e5 => exact HI.out
  case e6 => rfl
  case e7 => simp [shapeCells, Value.oneCell']
  simp only [Act.put]
  have hb1 := setRow_heap W0 B zeroCells shapeCells 112 (0, 0) HB0.out
  have hq1 : Quiet0 w (W0.setRow B shapeCells) := Fr.trans' HQ0.out (S := fun _ => False) (T := fun k => k = B) ⟨rfl, rfl, rfl, by simp, fun k _ hk => setRow_other W0 B k shapeCells hk⟩ (fun k hk e => by have := HBE.out; omega)
  generalize W0.setRow B shapeCells = W1 at *
  have HB1 := Lib.hid hb1
  have HQ1 := Lib.hid hq1
  clear hb1 hq1
  go_wp2_with fail
  have hb1 := HB1.out
  have hl := run_loadVar_mid (P := Tryd.prog) W1 B 0 112 shapeCells.toList _ (fun j v hv => by rw [cell_of_row _ _ _ _ _ (0, 0) hb1, Nat.zero_add]; simpa using hv) Tryd.underlying112 (by rfl) HI.out
  refine bodyPost_ret (results_one (a := 0) (t := 112) (ad := ⟨B, 0, none⟩) Tryd.results100 (by rfl) hl) (by rfl) ?_
  exact ⟨rfl, HQ1.out⟩
set_option maxRecDepth 100000 in
theorem shape_at (k : Int) (h1 : 1 ≤ k) (h2 : k ≤ 10) (W : World) : Sem.run Tryd.prog (Instr.index 112 (.agg shapeCells) (.int .i64 k)) W = .ok (.agg #[.bool (kName k), .bool (k == 10), .int .i64 (kLeast k), .int .i64 (kMost k), .int .i64 (kTop k)]) W := by
  have hk : k = 1 ∨ k = 2 ∨ k = 3 ∨ k = 4 ∨ k = 5 ∨ k = 6 ∨ k = 7 ∨ k = 8 ∨ k = 9 ∨ k = 10 := by omega
  rcases hk with rfl | rfl | rfl | rfl | rfl | rfl | rfl | rfl | rfl | rfl
  all_goals rfl
theorem cells5 {w : World} {b : Nat} {a0 a1 a2 a3 a4 : Value} {t : TypeId} (h : w.heap[b]? = some (.cells #[a0, a1, a2, a3, a4] t (0, 0))) :
    w.cell? ⟨b, 0, none⟩ = some a0 ∧ w.cell? ⟨b, 1, none⟩ = some a1 ∧ w.cell? ⟨b, 2, none⟩ = some a2 ∧ w.cell? ⟨b, 3, none⟩ = some a3 ∧ w.cell? ⟨b, 4, none⟩ = some a4 := by
  refine ⟨?_, ?_, ?_, ?_, ?_⟩ <;> (rw [cell_of_row _ _ _ _ _ (0, 0) h]; rfl)
theorem set5_fr (w : World) (b : Nat) (a0 a1 a2 a3 a4 : Value) : Fr (fun j => j = b) w (((((w.setCell ⟨b, 0, none⟩ a0).setCell ⟨b, 1, none⟩ a1).setCell ⟨b, 2, none⟩ a2).setCell ⟨b, 3, none⟩ a3).setCell ⟨b, 4, none⟩ a4) :=
  ((((Fr.setCell (fun j => j = b) w ⟨b, 0, none⟩ a0 rfl).trans (Fr.setCell (fun j => j = b) _ ⟨b, 1, none⟩ a1 rfl)).trans (Fr.setCell (fun j => j = b) _ ⟨b, 2, none⟩ a2 rfl)).trans (Fr.setCell (fun j => j = b) _ ⟨b, 3, none⟩ a3 rfl)).trans (Fr.setCell (fun j => j = b) _ ⟨b, 4, none⟩ a4 rfl)
theorem set5_block {w : World} {b : Nat} {a0 a1 a2 a3 a4 b0 b1 b2 b3 b4 : Value} {t : TypeId} (h : w.heap[b]? = some (.cells #[b0, b1, b2, b3, b4] t (0, 0))) :
    (((((w.setCell ⟨b, 0, none⟩ a0).setCell ⟨b, 1, none⟩ a1).setCell ⟨b, 2, none⟩ a2).setCell ⟨b, 3, none⟩ a3).setCell ⟨b, 4, none⟩ a4).heap[b]? = some (.cells #[a0, a1, a2, a3, a4] t (0, 0)) := by
  have s0 : (w.setCell ⟨b, 0, none⟩ a0).heap[b]? = some (.cells #[a0, b1, b2, b3, b4] t (0, 0)) := set_block h
  have s1 : ((w.setCell ⟨b, 0, none⟩ a0).setCell ⟨b, 1, none⟩ a1).heap[b]? = some (.cells #[a0, a1, b2, b3, b4] t (0, 0)) := set_block s0
  have s2 : (((w.setCell ⟨b, 0, none⟩ a0).setCell ⟨b, 1, none⟩ a1).setCell ⟨b, 2, none⟩ a2).heap[b]? = some (.cells #[a0, a1, a2, b3, b4] t (0, 0)) := set_block s1
  have s3 : ((((w.setCell ⟨b, 0, none⟩ a0).setCell ⟨b, 1, none⟩ a1).setCell ⟨b, 2, none⟩ a2).setCell ⟨b, 3, none⟩ a3).heap[b]? = some (.cells #[a0, a1, a2, a3, b4] t (0, 0)) := set_block s2
  exact set_block s3
set_option maxHeartbeats 8000000 in
set_option maxRecDepth 100000 in
theorem sound_in (k : Int) (hk1 : 1 ≤ k) (hk2 : k ≤ 10) (nm : ByteArray) (n tk tn : Int) (tp0 : Fo) (fr en : Int) (w : World) (o1 : Option Addr) (l1 c1 : Nat) (o2 : Option Addr) (l2 c2 : Nat)
    (hs : Slc w o1 l1 tp0) (hnm : nm.size ≤ 100000) (hz : tp0.size ≤ 100000) (hwn : wfI tn) (hwf : wfF tp0) (_ : l2 ≤ 9223372036854775807) (ht : Lx.Spaces w) :
    Calls Tryd.prog 70 #[.agg #[.int .i64 k, .string nm, .int .i64 n, .int .i64 tk, .int .i64 tn, .slice o1 l1 c1, .slice o2 l2 c2, .int .i64 fr, .int .i64 en]] w fun e w' => e = .returned (.bool (soundB ⟨k, nm, n, tk, tn, tp0, fr, en⟩ l2)) ∧ Quiet0 w w' := by
  have HSH := Lib.hid (fun (W : World) => shapes_any W)
  have HNAME := Lib.hid (fun (W : World) (h : Quiet0 w W) => Lx.name_any nm hnm W (ht.stay h))
  have HSAME := Lib.hid (fun (W : World) (h : Quiet0 w W) => same_any tk tn tp0 0 0 .nil W o1 l1 c1 none 0 0 (hs.stay h) (Slc.nil _ _))
  have HRIGHT := Lib.hid (fun (W : World) (h : Quiet0 w W) => right_any tk tn tp0 W o1 l1 c1 (hs.stay h))
  have HVARS : Hid (∀ W' b, Quiet0 w W' → W'.heap[b]? = some (.cells #[.int .i64 tk, .int .i64 tn, .slice o1 l1 c1] 25 (0, 0)) → Calls Tryd.prog 102 #[.slice (some ⟨b, 0, none⟩) 1 1] W' fun e w' => ∃ a c, e = .returned (.slice a (Fo.vars [] (.cons tk tn tp0 .nil)).length c) ∧ Quiet0 W' w') := by
    intro W' b h hb
    refine (vars_any (.cons tk tn tp0 .nil) W' (some ⟨b, 0, none⟩) 1 1 (slc1 hb (hs.stay h)) ⟨hwn, hwf, trivial⟩ (by simp only [Fo.size]; omega)).mono ?_
    rintro e w' ⟨vo, rfl, hr, hq⟩
    obtain ⟨a, c, rfl, _⟩ := hr.at
    exact ⟨a, c, rfl, hq⟩
  have hix := shape_at k hk1 hk2
  obtain ⟨res, hres⟩ : ∃ res, res = soundB ⟨k, nm, n, tk, tn, tp0, fr, en⟩ l2 := ⟨_, rfl⟩
  rw [← hres]
  have HRES0 : Hid (res = ((if kName k then Lx.nameB nm.data.toList else nm.toList.isEmpty) && (if (k == 10) then (rightT tk tn tp0 && (Fo.vars [] (.cons tk tn tp0 .nil)).isEmpty) else sameT tk tn tp0 0 0 .nil) && decide (0 ≤ n) && decide (n ≤ kTop k) && decide (kLeast k ≤ (l2 : Int)) && decide ((l2 : Int) ≤ kMost k))) := by
    show _ = _
    rw [hres]; unfold soundB namedB typedB closedT; simp only [hk1, hk2, decide_true, Bool.true_and]
  clear hres hs ht hwn hwf hz hnm
  generalize kName k = sn at *
  generalize (k == 10) = st at *
  generalize kLeast k = le at *
  generalize kMost k = mo at *
  generalize kTop k = tp at *
  obtain ⟨W0, hW0⟩ : ∃ W0, W0 = w.alloc (.cells #[.int .i64 k, .string nm, .int .i64 n, .int .i64 tk, .int .i64 tn, .slice o1 l1 c1, .slice o2 l2 c2, .int .i64 fr, .int .i64 en] 30) := ⟨_, rfl⟩
  obtain ⟨B, hB⟩ : ∃ B, B = w.heap.size := ⟨_, rfl⟩
  have hb0 : W0.heap[B]? = some (.cells #[.int .i64 k, .string nm, .int .i64 n, .int .i64 tk, .int .i64 tn, .slice o1 l1 c1, .slice o2 l2 c2, .int .i64 fr, .int .i64 en] 30 (0, 0)) := by rw [hW0, hB]; exact heap_alloc_new _ _
  have HQ0 : Hid (Quiet0 w W0) := by rw [hW0]; exact Quiet0.alloc _ _
  have HB0 : Hid (∀ W, Quiet0 W0 W → W.heap[B]? = some (.cells #[.int .i64 k, .string nm, .int .i64 n, .int .i64 tk, .int .i64 tn, .slice o1 l1 c1, .slice o2 l2 c2, .int .i64 fr, .int .i64 en] 30 (0, 0))) := fun W h => (h.block _ (lt_of_block hb0) (fun h => h)).trans hb0
  have hBlt : B < W0.heap.size := lt_of_block hb0
  clear hb0
  have HBC : Hid (∀ W, Quiet0 W0 W → W.cell? ⟨B, 0, none⟩ = some (.int .i64 k)) := fun W h => by rw [cell_of_row _ _ _ _ _ (0, 0) (HB0.out W h)]; rfl
  have HBF : Hid (∀ W, Fr (fun j => W0.heap.size ≤ j) W0 W → W.cell? ⟨B, 0, none⟩ = some (.int .i64 k)) := fun W h => (h.cellb hBlt (fun hh => by have h2 : W0.heap.size ≤ B := hh; omega)).trans (HBC.out _ (Quiet0.refl _))
  have hnk1 : ¬ k < 1 := by omega
  have hnk2 : ¬ 10 < k := by omega
  clear hBlt
  go_enter Tryd.func70, Tryd.ntmps70
  go_upto_region 3 with fail
  change Code.wp _ _ _ _ (w.alloc (.cells #[.int .i64 k, .string nm, .int .i64 n, .int .i64 tk, .int .i64 tn, .slice o1 l1 c1, .slice o2 l2 c2, .int .i64 fr, .int .i64 en] 30))
  rw [← hW0, ← hB]
  clear hW0 hB
  go_cut [3] (fun t wx => ∃ sb : Nat, t = .pointer (some ⟨sb, 0, none⟩) ∧ wx.heap[sb]? = some (.cells #[.bool sn, .bool st, .int .i64 le, .int .i64 mo, .int .i64 tp] 111 (0, 0)) ∧ Quiet0 W0 wx)
  case first =>
    clear HRES0 HNAME HSAME HRIGHT HVARS
    have HFR := Fr.refl (fun j => W0.heap.size ≤ j) W0
    have a0 := HBF.out _ HFR
    go_region_held3 (fun w' => w'.cell? ⟨B, 0, none⟩ = some (.int .i64 k))
      (((refine HBF.out _ ?_); (repeat (first | with_reducible exact HFR | with_reducible exact Quiet0.fr hqc | with_reducible exact Fr.refl _ _ | with_reducible refine Fr.trans ?_ (Fr.alloc _ _ _) | with_reducible refine Fr.trans ?_ (Fr.drew _ _) | ((with_reducible refine Fr.trans ?_ (Fr.setCell _ _ _ _ ?hsd)); (case hsd => (simp <;> omega))) | fail))))
      (first
        | (go_at_call 100; (with_reducible refine Calls.mono (HSH.out _) ?_); rintro e wx ⟨rfl, hqx⟩; (try (refine box5_use (b := W0.heap.size) (t := 111) (a0 := .bool false) (a1 := .bool false) (a2 := .int .i64 0) (a3 := .int .i64 0) (a4 := .int .i64 0) (blk_after hqx ?hbk) ?_; (case hbk => exact blk_new _ _ _ _ rfl); intro f0 f1 f2 f3 f4 y0 y1 y2 y3 y4 hzz)); (refine with_frq (S := fun j => W0.heap.size ≤ j) (w0 := W0) ?hfr hqx ?_); (case hfr => (repeat (first | with_reducible exact HFR | with_reducible exact Quiet0.fr hqc | with_reducible exact Fr.refl _ _ | with_reducible refine Fr.trans ?_ (Fr.alloc _ _ _) | with_reducible refine Fr.trans ?_ (Fr.drew _ _) | ((with_reducible refine Fr.trans ?_ (Fr.setCell _ _ _ _ ?hsd)); (case hsd => (simp <;> omega))) | fail))); intro HFR))
    all_goals
      clear hix HSH a0 HBC HBF HB0
      generalize shapeCells = sc at *
      go_step
      go_step
      go_meet
      refine ⟨_, rfl, ?hbb, ?hqq⟩
      case hbb =>
        first
        | with_reducible exact heap_alloc_new _ _
        | with_reducible exact set5_block hzz
      case hqq =>
        unfold Quiet0
        have h0 : Fr (fun _ => False) W0 wx := HFR.mono (fun i hi h => by have h2 : W0.heap.size ≤ i := h; omega)
        first
        | with_reducible exact Fr.trans h0 (Fr.alloc _ _ _)
        | (with_reducible refine Fr.trans' (T := fun j => j = W0.heap.size) h0 ?_ (fun i hi e => by omega)
           with_reducible exact set5_fr _ _ _ _ _ _ _)
  case rest =>
    rename World => wx
    obtain ⟨sb, rfl, hsb, hqx⟩ := hcut
    have HSB : Hid (∀ W, Quiet0 wx W → W.heap[sb]? = some (.cells #[.bool sn, .bool st, .int .i64 le, .int .i64 mo, .int .i64 tp] 111 (0, 0))) := fun W h => (h.block _ (lt_of_block hsb) (fun h => h)).trans hsb
    have HQX := Lib.hid hqx
    have HRES := HRES0
    clear HBC HBF HSH hix HRES0 hsb hqx
    obtain ⟨b0, b1, b2, b3, b4, b5, b6, b7, b8⟩ := cells9_block (h := ⟨k, nm, n, tk, tn, tp0, fr, en⟩) (HB0.out _ HQX.out)
    obtain ⟨s0, s1, s2, s3, s4⟩ := cells5 (HSB.out _ (Quiet0.refl wx))
    generalize sameT tk tn tp0 0 0 .nil = sm at *
    generalize rightT tk tn tp0 = rt at *
    generalize Fo.vars [] (.cons tk tn tp0 .nil) = L at *
    unfold tyv at HSAME HRIGHT
    cases sn
    · cases hbn : nm.toList.isEmpty
      · have e2 : ¬ nm.toList = [] := by simpa using hbn
        have e3 : nm.toList.isEmpty = false := hbn
        rw [hbn] at HRES
        clear hbn
        have HX1 := Lib.hid (Quiet0.refl wx)
        cases st
        · go_wp2_with fail
          refine (HSAME.out _ (HQ0.out.trans HQX.out)).mono ?_; rintro e w5 ⟨rfl, hq5⟩
          have HF := Lib.hid ((HQ0.out.trans HQX.out).trans hq5)
          have HF0 := Lib.hid (HQX.out.trans hq5)
          have HF1 := Lib.hid (HX1.out.trans hq5)
          clear hq5
          clear b0 b1 b2 b3 b4 b5 b6 b7 b8 s0 s1 s2 s3 s4
          obtain ⟨b0, b1, b2, b3, b4, b5, b6, b7, b8⟩ := cells9_block (h := ⟨k, nm, n, tk, tn, tp0, fr, en⟩) (HB0.out _ HF0.out)
          obtain ⟨s0, s1, s2, s3, s4⟩ := cells5 (HSB.out _ HF1.out)
          change Hid (res = (false && sm && decide (0 ≤ n) && decide (n ≤ tp) && decide (le ≤ (l2 : Int)) && decide ((l2 : Int) ≤ mo))) at HRES
          generalize sm = bt at *
          go_upto_region 11 with fail
          go_wp2_with fail
          all_goals first
          | (exfalso; omega)
          | (go_ret; exact ⟨by rw [HRES.out]; simp <;> omega, HF.out⟩)
        · go_wp2_with fail
          refine (HSAME.out _ (HQ0.out.trans HQX.out)).mono ?_; rintro e w3 ⟨rfl, hq3⟩
          have HE0 := Lib.hid (HQX.out.trans hq3)
          have HE1 := Lib.hid (HX1.out.trans hq3)
          clear hq3 b0 b1 b2 b3 b4 b5 b6 b7 b8 s0 s1 s2 s3 s4
          obtain ⟨b0, b1, b2, b3, b4, b5, b6, b7, b8⟩ := cells9_block (h := ⟨k, nm, n, tk, tn, tp0, fr, en⟩) (HB0.out _ HE0.out)
          obtain ⟨s0, s1, s2, s3, s4⟩ := cells5 (HSB.out _ HE1.out)
          go_wp2_with fail
          refine (HRIGHT.out _ (HQ0.out.trans HE0.out)).mono ?_; rintro e w5 ⟨rfl, hq5⟩
          have HF := Lib.hid ((HQ0.out.trans HE0.out).trans hq5)
          have HF0 := Lib.hid (HE0.out.trans hq5)
          have HF1 := Lib.hid (HE1.out.trans hq5)
          clear hq5
          clear b0 b1 b2 b3 b4 b5 b6 b7 b8 s0 s1 s2 s3 s4
          obtain ⟨b0, b1, b2, b3, b4, b5, b6, b7, b8⟩ := cells9_block (h := ⟨k, nm, n, tk, tn, tp0, fr, en⟩) (HB0.out _ HF0.out)
          obtain ⟨s0, s1, s2, s3, s4⟩ := cells5 (HSB.out _ HF1.out)
          cases rt
          · change Hid (res = (false && (false && L.isEmpty) && decide (0 ≤ n) && decide (n ≤ tp) && decide (le ≤ (l2 : Int)) && decide ((l2 : Int) ≤ mo))) at HRES
            go_upto_region 11 with fail
            go_wp2_with fail
            all_goals first
            | (exfalso; omega)
            | (go_ret; exact ⟨by rw [HRES.out]; simp <;> omega, HF.out⟩)
          · change Hid (res = (false && (true && L.isEmpty) && decide (0 ≤ n) && decide (n ≤ tp) && decide (le ≤ (l2 : Int)) && decide ((l2 : Int) ≤ mo))) at HRES
            obtain ⟨W6, hW6⟩ : ∃ W6, W6 = w5.alloc (.cells #[.int .i64 tk, .int .i64 tn, .slice o1 l1 c1] 25) := ⟨_, rfl⟩
            obtain ⟨vb, hvb⟩ : ∃ vb, vb = w5.heap.size := ⟨_, rfl⟩
            have hb6 : W6.heap[vb]? = some (.cells #[.int .i64 tk, .int .i64 tn, .slice o1 l1 c1] 25 (0, 0)) := by rw [hW6, hvb]; exact heap_alloc_new _ _
            have HQ6 : Hid (Quiet0 w5 W6) := by rw [hW6]; exact Quiet0.alloc _ _
            have HVC := Lib.hid (HVARS.out W6 vb (HF.out.trans HQ6.out) hb6)
            rw [hW6, hvb] at HVC
            clear hb6 hW6 hvb HQ6
            go_wp2_with fail
            refine HVC.out.mono ?_; rintro e w7 ⟨va, vc, rfl, hq7⟩
            replace HF := Lib.hid ((HF.out.trans (Quiet0.alloc _ _)).trans hq7)
            have HG0 := Lib.hid ((HF0.out.trans (Quiet0.alloc _ _)).trans hq7)
            have HG1 := Lib.hid ((HF1.out.trans (Quiet0.alloc _ _)).trans hq7)
            clear hq7
            clear b0 b1 b2 b3 b4 b5 b6 b7 b8 s0 s1 s2 s3 s4
            obtain ⟨b0, b1, b2, b3, b4, b5, b6, b7, b8⟩ := cells9_block (h := ⟨k, nm, n, tk, tn, tp0, fr, en⟩) (HB0.out _ HG0.out)
            obtain ⟨s0, s1, s2, s3, s4⟩ := cells5 (HSB.out _ HG1.out)
            cases L
            · change Hid (res = (false && true && decide (0 ≤ n) && decide (n ≤ tp) && decide (le ≤ (l2 : Int)) && decide ((l2 : Int) ≤ mo))) at HRES
              have hl0 : ((([] : List Int).length : Nat) : Int) = 0 := rfl
              go_upto_region 11 with fail
              go_wp2_with fail
              all_goals first
              | (exfalso; omega)
              | (go_ret; exact ⟨by rw [HRES.out]; simp <;> omega, HF.out⟩)
            · rename_i x0 r0
              change Hid (res = (false && false && decide (0 ≤ n) && decide (n ≤ tp) && decide (le ≤ (l2 : Int)) && decide ((l2 : Int) ≤ mo))) at HRES
              have hl0 : ¬ (((x0 :: r0).length : Nat) : Int) = 0 := by simp; omega
              generalize (((x0 :: r0).length : Nat)) = ln at *
              go_upto_region 11 with fail
              go_wp2_with fail
              all_goals first
              | (exfalso; omega)
              | (go_ret; exact ⟨by rw [HRES.out]; simp <;> omega, HF.out⟩)
      · have e2 : nm.toList = [] := by simpa using hbn
        have e3 : nm.toList.isEmpty = true := hbn
        rw [hbn] at HRES
        clear hbn
        have HX1 := Lib.hid (Quiet0.refl wx)
        cases st
        · go_wp2_with fail
          refine (HSAME.out _ (HQ0.out.trans HQX.out)).mono ?_; rintro e w5 ⟨rfl, hq5⟩
          have HF := Lib.hid ((HQ0.out.trans HQX.out).trans hq5)
          have HF0 := Lib.hid (HQX.out.trans hq5)
          have HF1 := Lib.hid (HX1.out.trans hq5)
          clear hq5
          clear b0 b1 b2 b3 b4 b5 b6 b7 b8 s0 s1 s2 s3 s4
          obtain ⟨b0, b1, b2, b3, b4, b5, b6, b7, b8⟩ := cells9_block (h := ⟨k, nm, n, tk, tn, tp0, fr, en⟩) (HB0.out _ HF0.out)
          obtain ⟨s0, s1, s2, s3, s4⟩ := cells5 (HSB.out _ HF1.out)
          change Hid (res = (true && sm && decide (0 ≤ n) && decide (n ≤ tp) && decide (le ≤ (l2 : Int)) && decide ((l2 : Int) ≤ mo))) at HRES
          generalize sm = bt at *
          go_upto_region 11 with fail
          cases bt
          · go_wp2_with fail
            all_goals first
            | (exfalso; omega)
            | (go_ret; exact ⟨by rw [HRES.out]; simp <;> omega, HF.out⟩)
          · by_cases g1 : 0 ≤ n
            · by_cases g2 : n ≤ tp
              · by_cases g3 : le ≤ (l2 : Int)
                · by_cases g4 : (l2 : Int) ≤ mo
                  · go_wp2_with fail
                    all_goals first
                    | (exfalso; omega)
                    | (go_ret; exact ⟨by rw [HRES.out]; simp [g1, g2, g3, g4] <;> omega, HF.out⟩)
                  · have g4' : mo < (l2 : Int) := by omega
                    go_wp2_with fail
                    all_goals first
                    | (exfalso; omega)
                    | (go_ret; exact ⟨by rw [HRES.out]; simp [g1, g2, g3, g4] <;> omega, HF.out⟩)
                · have g3' : (l2 : Int) < le := by omega
                  go_wp2_with fail
                  all_goals first
                  | (exfalso; omega)
                  | (go_ret; exact ⟨by rw [HRES.out]; simp <;> omega, HF.out⟩)
              · have g2' : tp < n := by omega
                go_wp2_with fail
                all_goals first
                | (exfalso; omega)
                | (go_ret; exact ⟨by rw [HRES.out]; simp <;> omega, HF.out⟩)
            · have g1' : n < 0 := by omega
              go_wp2_with fail
              all_goals first
              | (exfalso; omega)
              | (go_ret; exact ⟨by rw [HRES.out]; simp <;> omega, HF.out⟩)
        · go_wp2_with fail
          refine (HSAME.out _ (HQ0.out.trans HQX.out)).mono ?_; rintro e w3 ⟨rfl, hq3⟩
          have HE0 := Lib.hid (HQX.out.trans hq3)
          have HE1 := Lib.hid (HX1.out.trans hq3)
          clear hq3 b0 b1 b2 b3 b4 b5 b6 b7 b8 s0 s1 s2 s3 s4
          obtain ⟨b0, b1, b2, b3, b4, b5, b6, b7, b8⟩ := cells9_block (h := ⟨k, nm, n, tk, tn, tp0, fr, en⟩) (HB0.out _ HE0.out)
          obtain ⟨s0, s1, s2, s3, s4⟩ := cells5 (HSB.out _ HE1.out)
          go_wp2_with fail
          refine (HRIGHT.out _ (HQ0.out.trans HE0.out)).mono ?_; rintro e w5 ⟨rfl, hq5⟩
          have HF := Lib.hid ((HQ0.out.trans HE0.out).trans hq5)
          have HF0 := Lib.hid (HE0.out.trans hq5)
          have HF1 := Lib.hid (HE1.out.trans hq5)
          clear hq5
          clear b0 b1 b2 b3 b4 b5 b6 b7 b8 s0 s1 s2 s3 s4
          obtain ⟨b0, b1, b2, b3, b4, b5, b6, b7, b8⟩ := cells9_block (h := ⟨k, nm, n, tk, tn, tp0, fr, en⟩) (HB0.out _ HF0.out)
          obtain ⟨s0, s1, s2, s3, s4⟩ := cells5 (HSB.out _ HF1.out)
          cases rt
          · change Hid (res = (true && (false && L.isEmpty) && decide (0 ≤ n) && decide (n ≤ tp) && decide (le ≤ (l2 : Int)) && decide ((l2 : Int) ≤ mo))) at HRES
            go_upto_region 11 with fail
            go_wp2_with fail
            all_goals first
            | (exfalso; omega)
            | (go_ret; exact ⟨by rw [HRES.out]; simp <;> omega, HF.out⟩)
          · change Hid (res = (true && (true && L.isEmpty) && decide (0 ≤ n) && decide (n ≤ tp) && decide (le ≤ (l2 : Int)) && decide ((l2 : Int) ≤ mo))) at HRES
            obtain ⟨W6, hW6⟩ : ∃ W6, W6 = w5.alloc (.cells #[.int .i64 tk, .int .i64 tn, .slice o1 l1 c1] 25) := ⟨_, rfl⟩
            obtain ⟨vb, hvb⟩ : ∃ vb, vb = w5.heap.size := ⟨_, rfl⟩
            have hb6 : W6.heap[vb]? = some (.cells #[.int .i64 tk, .int .i64 tn, .slice o1 l1 c1] 25 (0, 0)) := by rw [hW6, hvb]; exact heap_alloc_new _ _
            have HQ6 : Hid (Quiet0 w5 W6) := by rw [hW6]; exact Quiet0.alloc _ _
            have HVC := Lib.hid (HVARS.out W6 vb (HF.out.trans HQ6.out) hb6)
            rw [hW6, hvb] at HVC
            clear hb6 hW6 hvb HQ6
            go_wp2_with fail
            refine HVC.out.mono ?_; rintro e w7 ⟨va, vc, rfl, hq7⟩
            replace HF := Lib.hid ((HF.out.trans (Quiet0.alloc _ _)).trans hq7)
            have HG0 := Lib.hid ((HF0.out.trans (Quiet0.alloc _ _)).trans hq7)
            have HG1 := Lib.hid ((HF1.out.trans (Quiet0.alloc _ _)).trans hq7)
            clear hq7
            clear b0 b1 b2 b3 b4 b5 b6 b7 b8 s0 s1 s2 s3 s4
            obtain ⟨b0, b1, b2, b3, b4, b5, b6, b7, b8⟩ := cells9_block (h := ⟨k, nm, n, tk, tn, tp0, fr, en⟩) (HB0.out _ HG0.out)
            obtain ⟨s0, s1, s2, s3, s4⟩ := cells5 (HSB.out _ HG1.out)
            cases L
            · change Hid (res = (true && true && decide (0 ≤ n) && decide (n ≤ tp) && decide (le ≤ (l2 : Int)) && decide ((l2 : Int) ≤ mo))) at HRES
              have hl0 : ((([] : List Int).length : Nat) : Int) = 0 := rfl
              go_upto_region 11 with fail
              by_cases g1 : 0 ≤ n
              · by_cases g2 : n ≤ tp
                · by_cases g3 : le ≤ (l2 : Int)
                  · by_cases g4 : (l2 : Int) ≤ mo
                    · go_wp2_with fail
                      all_goals first
                      | (exfalso; omega)
                      | (go_ret; exact ⟨by rw [HRES.out]; simp [g1, g2, g3, g4] <;> omega, HF.out⟩)
                    · have g4' : mo < (l2 : Int) := by omega
                      go_wp2_with fail
                      all_goals first
                      | (exfalso; omega)
                      | (go_ret; exact ⟨by rw [HRES.out]; simp [g1, g2, g3, g4] <;> omega, HF.out⟩)
                  · have g3' : (l2 : Int) < le := by omega
                    go_wp2_with fail
                    all_goals first
                    | (exfalso; omega)
                    | (go_ret; exact ⟨by rw [HRES.out]; simp <;> omega, HF.out⟩)
                · have g2' : tp < n := by omega
                  go_wp2_with fail
                  all_goals first
                  | (exfalso; omega)
                  | (go_ret; exact ⟨by rw [HRES.out]; simp <;> omega, HF.out⟩)
              · have g1' : n < 0 := by omega
                go_wp2_with fail
                all_goals first
                | (exfalso; omega)
                | (go_ret; exact ⟨by rw [HRES.out]; simp <;> omega, HF.out⟩)
            · rename_i x0 r0
              change Hid (res = (true && false && decide (0 ≤ n) && decide (n ≤ tp) && decide (le ≤ (l2 : Int)) && decide ((l2 : Int) ≤ mo))) at HRES
              have hl0 : ¬ (((x0 :: r0).length : Nat) : Int) = 0 := by simp; omega
              generalize (((x0 :: r0).length : Nat)) = ln at *
              go_upto_region 11 with fail
              go_wp2_with fail
              all_goals first
              | (exfalso; omega)
              | (go_ret; exact ⟨by rw [HRES.out]; simp <;> omega, HF.out⟩)
    · go_wp2_with fail
      refine (HNAME.out _ (HQ0.out.trans HQX.out)).mono ?_; rintro e w4 ⟨rfl, hq4⟩
      have HX0 := Lib.hid (HQX.out.trans hq4)
      have HX1 := Lib.hid hq4
      clear hq4
      clear b0 b1 b2 b3 b4 b5 b6 b7 b8 s0 s1 s2 s3 s4
      obtain ⟨b0, b1, b2, b3, b4, b5, b6, b7, b8⟩ := cells9_block (h := ⟨k, nm, n, tk, tn, tp0, fr, en⟩) (HB0.out _ HX0.out)
      obtain ⟨s0, s1, s2, s3, s4⟩ := cells5 (HSB.out _ HX1.out)
      generalize Lx.nameB nm.data.toList = bn at *
      cases st
      · go_wp2_with fail
        refine (HSAME.out _ (HQ0.out.trans HX0.out)).mono ?_; rintro e w5 ⟨rfl, hq5⟩
        have HF := Lib.hid ((HQ0.out.trans HX0.out).trans hq5)
        have HF0 := Lib.hid (HX0.out.trans hq5)
        have HF1 := Lib.hid (HX1.out.trans hq5)
        clear hq5
        clear b0 b1 b2 b3 b4 b5 b6 b7 b8 s0 s1 s2 s3 s4
        obtain ⟨b0, b1, b2, b3, b4, b5, b6, b7, b8⟩ := cells9_block (h := ⟨k, nm, n, tk, tn, tp0, fr, en⟩) (HB0.out _ HF0.out)
        obtain ⟨s0, s1, s2, s3, s4⟩ := cells5 (HSB.out _ HF1.out)
        change Hid (res = (bn && sm && decide (0 ≤ n) && decide (n ≤ tp) && decide (le ≤ (l2 : Int)) && decide ((l2 : Int) ≤ mo))) at HRES
        generalize sm = bt at *
        go_upto_region 11 with fail
        cases bn
        · go_wp2_with fail
          all_goals first
          | (exfalso; omega)
          | (go_ret; exact ⟨by rw [HRES.out]; simp <;> omega, HF.out⟩)
        · cases bt
          · go_wp2_with fail
            all_goals first
            | (exfalso; omega)
            | (go_ret; exact ⟨by rw [HRES.out]; simp <;> omega, HF.out⟩)
          · by_cases g1 : 0 ≤ n
            · by_cases g2 : n ≤ tp
              · by_cases g3 : le ≤ (l2 : Int)
                · by_cases g4 : (l2 : Int) ≤ mo
                  · go_wp2_with fail
                    all_goals first
                    | (exfalso; omega)
                    | (go_ret; exact ⟨by rw [HRES.out]; simp [g1, g2, g3, g4] <;> omega, HF.out⟩)
                  · have g4' : mo < (l2 : Int) := by omega
                    go_wp2_with fail
                    all_goals first
                    | (exfalso; omega)
                    | (go_ret; exact ⟨by rw [HRES.out]; simp [g1, g2, g3, g4] <;> omega, HF.out⟩)
                · have g3' : (l2 : Int) < le := by omega
                  go_wp2_with fail
                  all_goals first
                  | (exfalso; omega)
                  | (go_ret; exact ⟨by rw [HRES.out]; simp <;> omega, HF.out⟩)
              · have g2' : tp < n := by omega
                go_wp2_with fail
                all_goals first
                | (exfalso; omega)
                | (go_ret; exact ⟨by rw [HRES.out]; simp <;> omega, HF.out⟩)
            · have g1' : n < 0 := by omega
              go_wp2_with fail
              all_goals first
              | (exfalso; omega)
              | (go_ret; exact ⟨by rw [HRES.out]; simp <;> omega, HF.out⟩)
      · go_wp2_with fail
        refine (HSAME.out _ (HQ0.out.trans HX0.out)).mono ?_; rintro e w3 ⟨rfl, hq3⟩
        have HE0 := Lib.hid (HX0.out.trans hq3)
        have HE1 := Lib.hid (HX1.out.trans hq3)
        clear hq3 b0 b1 b2 b3 b4 b5 b6 b7 b8 s0 s1 s2 s3 s4
        obtain ⟨b0, b1, b2, b3, b4, b5, b6, b7, b8⟩ := cells9_block (h := ⟨k, nm, n, tk, tn, tp0, fr, en⟩) (HB0.out _ HE0.out)
        obtain ⟨s0, s1, s2, s3, s4⟩ := cells5 (HSB.out _ HE1.out)
        go_wp2_with fail
        refine (HRIGHT.out _ (HQ0.out.trans HE0.out)).mono ?_; rintro e w5 ⟨rfl, hq5⟩
        have HF := Lib.hid ((HQ0.out.trans HE0.out).trans hq5)
        have HF0 := Lib.hid (HE0.out.trans hq5)
        have HF1 := Lib.hid (HE1.out.trans hq5)
        clear hq5
        clear b0 b1 b2 b3 b4 b5 b6 b7 b8 s0 s1 s2 s3 s4
        obtain ⟨b0, b1, b2, b3, b4, b5, b6, b7, b8⟩ := cells9_block (h := ⟨k, nm, n, tk, tn, tp0, fr, en⟩) (HB0.out _ HF0.out)
        obtain ⟨s0, s1, s2, s3, s4⟩ := cells5 (HSB.out _ HF1.out)
        cases rt
        · change Hid (res = (bn && (false && L.isEmpty) && decide (0 ≤ n) && decide (n ≤ tp) && decide (le ≤ (l2 : Int)) && decide ((l2 : Int) ≤ mo))) at HRES
          go_upto_region 11 with fail
          cases bn
          · go_wp2_with fail
            all_goals first
            | (exfalso; omega)
            | (go_ret; exact ⟨by rw [HRES.out]; simp <;> omega, HF.out⟩)
          · go_wp2_with fail
            all_goals first
            | (exfalso; omega)
            | (go_ret; exact ⟨by rw [HRES.out]; simp <;> omega, HF.out⟩)
        · change Hid (res = (bn && (true && L.isEmpty) && decide (0 ≤ n) && decide (n ≤ tp) && decide (le ≤ (l2 : Int)) && decide ((l2 : Int) ≤ mo))) at HRES
          obtain ⟨W6, hW6⟩ : ∃ W6, W6 = w5.alloc (.cells #[.int .i64 tk, .int .i64 tn, .slice o1 l1 c1] 25) := ⟨_, rfl⟩
          obtain ⟨vb, hvb⟩ : ∃ vb, vb = w5.heap.size := ⟨_, rfl⟩
          have hb6 : W6.heap[vb]? = some (.cells #[.int .i64 tk, .int .i64 tn, .slice o1 l1 c1] 25 (0, 0)) := by rw [hW6, hvb]; exact heap_alloc_new _ _
          have HQ6 : Hid (Quiet0 w5 W6) := by rw [hW6]; exact Quiet0.alloc _ _
          have HVC := Lib.hid (HVARS.out W6 vb (HF.out.trans HQ6.out) hb6)
          rw [hW6, hvb] at HVC
          clear hb6 hW6 hvb HQ6
          go_wp2_with fail
          refine HVC.out.mono ?_; rintro e w7 ⟨va, vc, rfl, hq7⟩
          replace HF := Lib.hid ((HF.out.trans (Quiet0.alloc _ _)).trans hq7)
          have HG0 := Lib.hid ((HF0.out.trans (Quiet0.alloc _ _)).trans hq7)
          have HG1 := Lib.hid ((HF1.out.trans (Quiet0.alloc _ _)).trans hq7)
          clear hq7
          clear b0 b1 b2 b3 b4 b5 b6 b7 b8 s0 s1 s2 s3 s4
          obtain ⟨b0, b1, b2, b3, b4, b5, b6, b7, b8⟩ := cells9_block (h := ⟨k, nm, n, tk, tn, tp0, fr, en⟩) (HB0.out _ HG0.out)
          obtain ⟨s0, s1, s2, s3, s4⟩ := cells5 (HSB.out _ HG1.out)
          cases L
          · change Hid (res = (bn && true && decide (0 ≤ n) && decide (n ≤ tp) && decide (le ≤ (l2 : Int)) && decide ((l2 : Int) ≤ mo))) at HRES
            have hl0 : ((([] : List Int).length : Nat) : Int) = 0 := rfl
            go_upto_region 11 with fail
            cases bn
            · go_wp2_with fail
              all_goals first
              | (exfalso; omega)
              | (go_ret; exact ⟨by rw [HRES.out]; simp <;> omega, HF.out⟩)
            · by_cases g1 : 0 ≤ n
              · by_cases g2 : n ≤ tp
                · by_cases g3 : le ≤ (l2 : Int)
                  · by_cases g4 : (l2 : Int) ≤ mo
                    · go_wp2_with fail
                      all_goals first
                      | (exfalso; omega)
                      | (go_ret; exact ⟨by rw [HRES.out]; simp [g1, g2, g3, g4] <;> omega, HF.out⟩)
                    · have g4' : mo < (l2 : Int) := by omega
                      go_wp2_with fail
                      all_goals first
                      | (exfalso; omega)
                      | (go_ret; exact ⟨by rw [HRES.out]; simp [g1, g2, g3, g4] <;> omega, HF.out⟩)
                  · have g3' : (l2 : Int) < le := by omega
                    go_wp2_with fail
                    all_goals first
                    | (exfalso; omega)
                    | (go_ret; exact ⟨by rw [HRES.out]; simp <;> omega, HF.out⟩)
                · have g2' : tp < n := by omega
                  go_wp2_with fail
                  all_goals first
                  | (exfalso; omega)
                  | (go_ret; exact ⟨by rw [HRES.out]; simp <;> omega, HF.out⟩)
              · have g1' : n < 0 := by omega
                go_wp2_with fail
                all_goals first
                | (exfalso; omega)
                | (go_ret; exact ⟨by rw [HRES.out]; simp <;> omega, HF.out⟩)
          · rename_i x0 r0
            change Hid (res = (bn && false && decide (0 ≤ n) && decide (n ≤ tp) && decide (le ≤ (l2 : Int)) && decide ((l2 : Int) ≤ mo))) at HRES
            have hl0 : ¬ (((x0 :: r0).length : Nat) : Int) = 0 := by simp; omega
            generalize (((x0 :: r0).length : Nat)) = ln at *
            go_upto_region 11 with fail
            cases bn
            · go_wp2_with fail
              all_goals first
              | (exfalso; omega)
              | (go_ret; exact ⟨by rw [HRES.out]; simp <;> omega, HF.out⟩)
            · go_wp2_with fail
              all_goals first
              | (exfalso; omega)
              | (go_ret; exact ⟨by rw [HRES.out]; simp <;> omega, HF.out⟩)
end Go.Proofs.YtnfodiedalhlhaaDoor
end
