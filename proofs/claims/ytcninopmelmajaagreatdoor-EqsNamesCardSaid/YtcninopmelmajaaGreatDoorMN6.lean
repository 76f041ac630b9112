/-
  Texts laid together (TeSound, ScCall, CnAlike, ScIdx, Rf): laws and walks, with their conditions.
-/
import Derived.Deep.MidRow
import Derived.RangeFuncOwn
import Derived.RangeFuncCalls
import Derived.Test.YtcninopmelmajaaGreatDoorMN5
set_option maxHeartbeats 8000000
set_option maxRecDepth 1000000
namespace Go.Proofs.YtcninopmelmajaaGreatDoor
open Go.Lib (hid)
section
open Go.RowKit
def kName (k : Int) : Bool := k == 1 || k == 4 || k == 6 || k == 7
def kTop (k : Int) : Int := if k == 1 then 9223372036854775807 else if k == 2 then 999999999 else if k == 3 then 1 else 0
def kLeast (k : Int) : Int := if k == 4 || k == 10 then 1 else if k == 5 || k == 6 || k == 7 || k == 9 then 2 else if k == 8 then 3 else 0
def kMost (k : Int) : Int := if k == 4 || k == 10 then 1 else if k == 5 || k == 6 || k == 7 then 2 else if k == 8 then 3 else if k == 9 then 8 else 0
def closedT (tk tn : Int) (tp : Fo) : Bool := rightT tk tn tp && (Fo.vars [] (.cons tk tn tp .nil)).isEmpty
def namedB (h : Nd) : Bool := if kName h.k then Lx.nameB h.nm.data.toList else h.nm.toList.isEmpty
def typedB (h : Nd) : Bool := if h.k == 10 then closedT h.tk h.tn h.tp else sameT h.tk h.tn h.tp 0 0 .nil
def soundB (h : Nd) (m : Nat) : Bool :=
 decide (1 <= h.k) && decide (h.k <= 10) && namedB h && typedB h && decide (0 <= h.n) && decide (h.n <= kTop h.k) && decide (kLeast h.k <= m) && decide ((m : Int) <= kMost h.k)
def shapeCells : Array Value := #[
 .bool false, .bool false, .int .i64 0, .int .i64 0, .int .i64 0,
 .bool true, .bool false, .int .i64 0, .int .i64 0, .int .i64 9223372036854775807,
 .bool false, .bool false, .int .i64 0, .int .i64 0, .int .i64 999999999,
 .bool false, .bool false, .int .i64 0, .int .i64 0, .int .i64 1,
 .bool true, .bool false, .int .i64 1, .int .i64 1, .int .i64 0,
 .bool false, .bool false, .int .i64 2, .int .i64 2, .int .i64 0,
 .bool true, .bool false, .int .i64 2, .int .i64 2, .int .i64 0,
 .bool true, .bool false, .int .i64 2, .int .i64 2, .int .i64 0,
 .bool false, .bool false, .int .i64 3, .int .i64 3, .int .i64 0,
 .bool false, .bool false, .int .i64 2, .int .i64 8, .int .i64 0,
 .bool false, .bool true, .int .i64 1, .int .i64 1, .int .i64 0]
theorem results_one {P : Program} {fn : Func} {tmps : Array Value} {t : TypeId} {a : Tmp} {ad : Addr} {v : Value} {w : World} (hr : fn.results = #[.cell a t]) (hx : tmps.getD a undef = .pointer (some ad)) (hl : (loadVar t ad).run P w = .ok v w) : (results fn tmps).run P w = .ok v w := by
 have hx2 : tmps[a]?.getD undef = .pointer (some ad) := by simpa using hx
 simp [results, hr, asAddr, hx2, hl]
theorem wpList_build_as {P : Program} {ops : Array Oper} {rest : List Oper} {o : Oper} {a : Act} {w : World} {Q : Exit -> Act -> World -> Prop} (hg : o.guard = none) (t : TypeId) (parts : Array (Nat × Operand)) (ho : o.op = .build t parts)
    (cs : Array Value) (hc : P.built t (parts.map fun (i, x) => (i, a.eval x)).toList = some cs)
    (h : wpList P ops Q rest (a.put o.dst (.agg cs)) w) : wpList P ops Q (o :: rest) a w :=
 wpList_build hg t parts ho (by rw [hc]; rfl) (by rw [hc]; exact h)
def zeroCells : Array Value := #[
 .bool false, .bool false, .int .i64 0, .int .i64 0, .int .i64 0, .bool false, .bool false, .int .i64 0, .int .i64 0, .int .i64 0,
 .bool false, .bool false, .int .i64 0, .int .i64 0, .int .i64 0, .bool false, .bool false, .int .i64 0, .int .i64 0, .int .i64 0,
 .bool false, .bool false, .int .i64 0, .int .i64 0, .int .i64 0, .bool false, .bool false, .int .i64 0, .int .i64 0, .int .i64 0,
 .bool false, .bool false, .int .i64 0, .int .i64 0, .int .i64 0, .bool false, .bool false, .int .i64 0, .int .i64 0, .int .i64 0,
 .bool false, .bool false, .int .i64 0, .int .i64 0, .int .i64 0, .bool false, .bool false, .int .i64 0, .int .i64 0, .int .i64 0,
 .bool false, .bool false, .int .i64 0, .int .i64 0, .int .i64 0]
theorem shapes_any (w : World) : Calls Tryz.prog 85 #[] w fun e w' => e = .returned (.agg shapeCells) /\ Quiet0 w w' := by
 obtain ⟨W0, hW0⟩ : ∃ W0, W0 = w.alloc (.cells zeroCells 137) := ⟨_, rfl⟩
 obtain ⟨B, hB⟩ : ∃ B, B = w.heap.size := ⟨_, rfl⟩
 have hb0 : W0.heap[B]? = some (.cells zeroCells 137 (0, 0)) := by rw [hW0, hB]; exact heap_alloc_new _ _
 have HQ0 : Hid (Quiet0 w W0) := by rw [hW0]; exact Quiet0.alloc _ _
 have HB0 := hid hb0
 have HBE := hid hB
 have hi : (Tryz.prog.info? 137).map (·.size) = some 55 := by kernel_rfl
 have HI := hid hi
 clear hi hb0
 go_enter Tryz.func85, Tryz.ntmps85
 go_upto_region 1 with fail
 change Code.wp _ _ _ _ (w.alloc (.cells zeroCells 137))
 rw [<- hW0, <- hB]
 clear hW0 hB
 refine wp_region_lit ?_
 with_reducible refine wpList_build_as (by rfl) 136 _ (by rfl) #[.bool true, .bool false, .int .i64 0, .int .i64 0, .int .i64 9223372036854775807] (by kernel_rfl) ?_
 simp only [Act.put, List.setIfInBounds_toArray, List.set_cons_zero, List.set_cons_succ]
 with_reducible refine wpList_build_as (by rfl) 136 _ (by rfl) #[.bool false, .bool false, .int .i64 0, .int .i64 0, .int .i64 999999999] (by kernel_rfl) ?_
 simp only [Act.put, List.setIfInBounds_toArray, List.set_cons_zero, List.set_cons_succ]
 with_reducible refine wpList_build_as (by rfl) 136 _ (by rfl) #[.bool false, .bool false, .int .i64 0, .int .i64 0, .int .i64 1] (by kernel_rfl) ?_
 simp only [Act.put, List.setIfInBounds_toArray, List.set_cons_zero, List.set_cons_succ]
 with_reducible refine wpList_build_as (by rfl) 136 _ (by rfl) #[.bool true, .bool false, .int .i64 1, .int .i64 1, .int .i64 0] (by kernel_rfl) ?_
 simp only [Act.put, List.setIfInBounds_toArray, List.set_cons_zero, List.set_cons_succ]
 with_reducible refine wpList_build_as (by rfl) 136 _ (by rfl) #[.bool false, .bool false, .int .i64 2, .int .i64 2, .int .i64 0] (by kernel_rfl) ?_
 simp only [Act.put, List.setIfInBounds_toArray, List.set_cons_zero, List.set_cons_succ]
 with_reducible refine wpList_build_as (by rfl) 136 _ (by rfl) #[.bool true, .bool false, .int .i64 2, .int .i64 2, .int .i64 0] (by kernel_rfl) ?_
 simp only [Act.put, List.setIfInBounds_toArray, List.set_cons_zero, List.set_cons_succ]
 with_reducible refine wpList_build_as (by rfl) 136 _ (by rfl) #[.bool true, .bool false, .int .i64 2, .int .i64 2, .int .i64 0] (by kernel_rfl) ?_
 simp only [Act.put, List.setIfInBounds_toArray, List.set_cons_zero, List.set_cons_succ]
 with_reducible refine wpList_build_as (by rfl) 136 _ (by rfl) #[.bool false, .bool false, .int .i64 3, .int .i64 3, .int .i64 0] (by kernel_rfl) ?_
 simp only [Act.put, List.setIfInBounds_toArray, List.set_cons_zero, List.set_cons_succ]
 with_reducible refine wpList_build_as (by rfl) 136 _ (by rfl) #[.bool false, .bool false, .int .i64 2, .int .i64 8, .int .i64 0] (by kernel_rfl) ?_
 simp only [Act.put, List.setIfInBounds_toArray, List.set_cons_zero, List.set_cons_succ]
 with_reducible refine wpList_build_as (by rfl) 136 _ (by rfl) #[.bool false, .bool true, .int .i64 1, .int .i64 1, .int .i64 0] (by kernel_rfl) ?_
 simp only [Act.put, List.setIfInBounds_toArray, List.set_cons_zero, List.set_cons_succ]
 with_reducible refine wpList_build_as (by rfl) 137 _ (by rfl) shapeCells (by kernel_rfl) ?_
 simp only [Act.put, List.setIfInBounds_toArray, List.set_cons_zero, List.set_cons_succ]
 with_reducible refine wpList_store_row ?e1 137 (.tmp 0) (.tmp 11) ?e2 B shapeCells ?e3 ?e4 137 zeroCells HB0.out ?e5 ?e6 ?e7 ?_
 case e1 => rfl
 case e2 => rfl
 case e3 => rfl
 case e4 => rfl
 case e5 => exact HI.out
 case e6 => rfl
 case e7 => simp [shapeCells, Value.oneCell']
 simp only [Act.put]
 have hb1 := setRow_heap W0 B zeroCells shapeCells 137 (0, 0) HB0.out
 have hq1 : Quiet0 w (W0.setRow B shapeCells) := Fr.trans' HQ0.out (S := fun _ => False) (T := fun k => k = B) ⟨rfl, rfl, rfl, by simp, fun k _ hk => setRow_other W0 B k shapeCells hk⟩ (fun k hk e => by have := HBE.out; omega)
 generalize W0.setRow B shapeCells = W1 at *
 have HB1 := hid hb1
 have HQ1 := hid hq1
 clear hb1 hq1
 go_wp2_with fail
 have hb1 := HB1.out
 have hl := run_loadVar_mid (P := Tryz.prog) W1 B 0 137 shapeCells.toList _ (fun j v hv => by rw [cell_of_row _ _ _ _ _ (0, 0) hb1, Nat.zero_add]; simpa using hv) Tryz.underlying137 (by rfl) HI.out
 refine bodyPost_ret (results_one (a := 0) (t := 137) (ad := ⟨B, 0, none⟩) Tryz.results85 (by rfl) hl) (by rfl) ?_
 exact ⟨rfl, HQ1.out⟩
theorem shape_at (k : Int) (h1 : 1 <= k) (h2 : k <= 10) (W : World) : Sem.run Tryz.prog (Instr.index 137 (.agg shapeCells) (.int .i64 k)) W = .ok (.agg #[.bool (kName k), .bool (k == 10), .int .i64 (kLeast k), .int .i64 (kMost k), .int .i64 (kTop k)]) W := by
 have hk : k = 1 ∨ k = 2 ∨ k = 3 ∨ k = 4 ∨ k = 5 ∨ k = 6 ∨ k = 7 ∨ k = 8 ∨ k = 9 ∨ k = 10 := by omega
 rcases hk with rfl | rfl | rfl | rfl | rfl | rfl | rfl | rfl | rfl | rfl
 all_goals rfl
theorem cells5 {w : World} {b : Nat} {a0 a1 a2 a3 a4 : Value} {t : TypeId} (h : w.heap[b]? = some (.cells #[a0, a1, a2, a3, a4] t (0, 0))) :
    w.cell? ⟨b, 0, none⟩ = some a0 /\ w.cell? ⟨b, 1, none⟩ = some a1 /\ w.cell? ⟨b, 2, none⟩ = some a2 /\ w.cell? ⟨b, 3, none⟩ = some a3 /\ w.cell? ⟨b, 4, none⟩ = some a4 := by
 refine ⟨?_, ?_, ?_, ?_, ?_⟩ <;> (rw [cell_of_row _ _ _ _ _ (0, 0) h]; rfl)
theorem set5_fr (w : World) (b : Nat) (a0 a1 a2 a3 a4 : Value) : Fr (fun j => j = b) w (((((w.setCell ⟨b, 0, none⟩ a0).setCell ⟨b, 1, none⟩ a1).setCell ⟨b, 2, none⟩ a2).setCell ⟨b, 3, none⟩ a3).setCell ⟨b, 4, none⟩ a4) :=
 ((((Fr.setCell (fun j => j = b) w ⟨b, 0, none⟩ a0 rfl).trans (Fr.setCell (fun j => j = b) _ ⟨b, 1, none⟩ a1 rfl)).trans (Fr.setCell (fun j => j = b) _ ⟨b, 2, none⟩ a2 rfl)).trans (Fr.setCell (fun j => j = b) _ ⟨b, 3, none⟩ a3 rfl)).trans (Fr.setCell (fun j => j = b) _ ⟨b, 4, none⟩ a4 rfl)
theorem set5_block {w : World} {b : Nat} {a0 a1 a2 a3 a4 b0 b1 b2 b3 b4 : Value} {t : TypeId} (h : w.heap[b]? = some (.cells #[b0, b1, b2, b3, b4] t (0, 0))) :
    (((((w.setCell ⟨b, 0, none⟩ a0).setCell ⟨b, 1, none⟩ a1).setCell ⟨b, 2, none⟩ a2).setCell ⟨b, 3, none⟩ a3).setCell ⟨b, 4, none⟩ a4).heap[b]? = some (.cells #[a0, a1, a2, a3, a4] t (0, 0)) := by
 have s0 : (w.setCell ⟨b, 0, none⟩ a0).heap[b]? = some (.cells #[a0, b1, b2, b3, b4] t (0, 0)) := set_block h
 have s1 : ((w.setCell ⟨b, 0, none⟩ a0).setCell ⟨b, 1, none⟩ a1).heap[b]? = some (.cells #[a0, a1, b2, b3, b4] t (0, 0)) := set_block s0
 have s2 : (((w.setCell ⟨b, 0, none⟩ a0).setCell ⟨b, 1, none⟩ a1).setCell ⟨b, 2, none⟩ a2).heap[b]? = some (.cells #[a0, a1, a2, b3, b4] t (0, 0)) := set_block s1
 have s3 : ((((w.setCell ⟨b, 0, none⟩ a0).setCell ⟨b, 1, none⟩ a1).setCell ⟨b, 2, none⟩ a2).setCell ⟨b, 3, none⟩ a3).heap[b]? = some (.cells #[a0, a1, a2, a3, b4] t (0, 0)) := set_block s2
 exact set_block s3
theorem sound_in (k : Int) (hk1 : 1 <= k) (hk2 : k <= 10) (nm : ByteArray) (n tk tn : Int) (tp0 : Fo) (fr en : Int) (w : World) (o1 : Option Addr) (l1 c1 : Nat) (o2 : Option Addr) (l2 c2 : Nat)
    (hs : Slc w o1 l1 tp0) (hnm : nm.size <= 100000) (hz : tp0.size <= 100000) (hwn : wfI tn) (hwf : wfF tp0) (_ : l2 <= 9223372036854775807) (ht : Lx.Spaces w) :
    Calls Tryz.prog 51 #[.agg #[.int .i64 k, .string nm, .int .i64 n, .int .i64 tk, .int .i64 tn, .slice o1 l1 c1, .slice o2 l2 c2, .int .i64 fr, .int .i64 en]] w fun e w' => e = .returned (.bool (soundB ⟨k, nm, n, tk, tn, tp0, fr, en⟩ l2)) /\ Quiet0 w w' := by
 have HSH := hid (fun (W : World) => shapes_any W)
 have HNAME := hid (fun (W : World) (h : Quiet0 w W) => Lx.name_any nm hnm W (ht.stay h))
 have HSAME := hid (fun (W : World) (h : Quiet0 w W) => same_any tk tn tp0 0 0 .nil W o1 l1 c1 none 0 0 (hs.stay h) (Slc.nil _ _))
 have HRIGHT := hid (fun (W : World) (h : Quiet0 w W) => right_any tk tn tp0 W o1 l1 c1 (hs.stay h))
 have HVARS : Hid (∀ W' b, Quiet0 w W' -> W'.heap[b]? = some (.cells #[.int .i64 tk, .int .i64 tn, .slice o1 l1 c1] 24 (0, 0)) -> Calls Tryz.prog 45 #[.slice (some ⟨b, 0, none⟩) 1 1] W' fun e w' => ∃ a c, e = .returned (.slice a (Fo.vars [] (.cons tk tn tp0 .nil)).length c) /\ Quiet0 W' w') := by
  intro W' b h hb
  refine (vars_any (.cons tk tn tp0 .nil) W' (some ⟨b, 0, none⟩) 1 1 (slc1 hb (hs.stay h)) ⟨hwn, hwf, trivial⟩ (by simp only [Fo.size]; omega)).mono ?_
  rintro e w' ⟨vo, rfl, hr, hq⟩
  obtain ⟨a, c, rfl, _⟩ := hr.at
  exact ⟨a, c, rfl, hq⟩
 have hix := shape_at k hk1 hk2
 obtain ⟨res, hres⟩ : ∃ res, res = soundB ⟨k, nm, n, tk, tn, tp0, fr, en⟩ l2 := ⟨_, rfl⟩
 rw [<- hres]
 have HRES0 : Hid (res = ((if kName k then Lx.nameB nm.data.toList else nm.toList.isEmpty) && (if (k == 10) then (rightT tk tn tp0 && (Fo.vars [] (.cons tk tn tp0 .nil)).isEmpty) else sameT tk tn tp0 0 0 .nil) && decide (0 <= n) && decide (n <= kTop k) && decide (kLeast k <= (l2 : Int)) && decide ((l2 : Int) <= kMost k))) := by
  show _ = _
  rw [hres]; unfold soundB namedB typedB closedT; simp only [hk1, hk2, decide_true, Bool.true_and]
 clear hres hs ht hwn hwf hz hnm
 generalize kName k = sn at *
 generalize (k == 10) = st at *
 generalize kLeast k = le at *
 generalize kMost k = mo at *
 generalize kTop k = tp at *
 obtain ⟨W0, hW0⟩ : ∃ W0, W0 = w.alloc (.cells #[.int .i64 k, .string nm, .int .i64 n, .int .i64 tk, .int .i64 tn, .slice o1 l1 c1, .slice o2 l2 c2, .int .i64 fr, .int .i64 en] 29) := ⟨_, rfl⟩
 obtain ⟨B, hB⟩ : ∃ B, B = w.heap.size := ⟨_, rfl⟩
 have hb0 : W0.heap[B]? = some (.cells #[.int .i64 k, .string nm, .int .i64 n, .int .i64 tk, .int .i64 tn, .slice o1 l1 c1, .slice o2 l2 c2, .int .i64 fr, .int .i64 en] 29 (0, 0)) := by rw [hW0, hB]; exact heap_alloc_new _ _
 have HQ0 : Hid (Quiet0 w W0) := by rw [hW0]; exact Quiet0.alloc _ _
 have HB0 : Hid (∀ W, Quiet0 W0 W -> W.heap[B]? = some (.cells #[.int .i64 k, .string nm, .int .i64 n, .int .i64 tk, .int .i64 tn, .slice o1 l1 c1, .slice o2 l2 c2, .int .i64 fr, .int .i64 en] 29 (0, 0))) := fun W h => (h.block _ (lt_of_block hb0) (fun h => h)).trans hb0
 have hBlt : B < W0.heap.size := lt_of_block hb0
 clear hb0
 have HBC : Hid (∀ W, Quiet0 W0 W -> W.cell? ⟨B, 0, none⟩ = some (.int .i64 k)) := fun W h => by rw [cell_of_row _ _ _ _ _ (0, 0) (HB0.out W h)]; rfl
 have HBF : Hid (∀ W, Fr (fun j => W0.heap.size <= j) W0 W -> W.cell? ⟨B, 0, none⟩ = some (.int .i64 k)) := fun W h => (h.cellb hBlt (fun hh => by have h2 : W0.heap.size <= B := hh; omega)).trans (HBC.out _ (Quiet0.refl _))
 have hnk1 : ¬ k < 1 := by omega
 have hnk2 : ¬ 10 < k := by omega
 clear hBlt
 go_enter Tryz.func51, Tryz.ntmps51
 go_upto_region 3 with fail
 change Code.wp _ _ _ _ (w.alloc (.cells #[.int .i64 k, .string nm, .int .i64 n, .int .i64 tk, .int .i64 tn, .slice o1 l1 c1, .slice o2 l2 c2, .int .i64 fr, .int .i64 en] 29))
 rw [<- hW0, <- hB]
 clear hW0 hB
 go_cut [3] (fun t wx => ∃ sb : Nat, t = .pointer (some ⟨sb, 0, none⟩) /\ wx.heap[sb]? = some (.cells #[.bool sn, .bool st, .int .i64 le, .int .i64 mo, .int .i64 tp] 136 (0, 0)) /\ Quiet0 W0 wx)
 case first =>
  clear HRES0 HNAME HSAME HRIGHT HVARS
  have HFR := Fr.refl (fun j => W0.heap.size <= j) W0
  have a0 := HBF.out _ HFR
  go_region_held3 (fun w' => w'.cell? ⟨B, 0, none⟩ = some (.int .i64 k))
   (((refine HBF.out _ ?_); (repeat (first | with_reducible exact HFR | with_reducible exact Quiet0.fr hqc | with_reducible exact Fr.refl _ _ | with_reducible refine Fr.trans ?_ (Fr.alloc _ _ _) | with_reducible refine Fr.trans ?_ (Fr.drew _ _) | ((with_reducible refine Fr.trans ?_ (Fr.setCell _ _ _ _ ?hsd)); (case hsd => (simp <;> omega))) | fail))))
   (first
    | (go_at_call 85; (with_reducible refine Calls.mono (HSH.out _) ?_); rintro e wx ⟨rfl, hqx⟩; (try (refine box5_use (b := W0.heap.size) (t := 136) (a0 := .bool false) (a1 := .bool false) (a2 := .int .i64 0) (a3 := .int .i64 0) (a4 := .int .i64 0) (blk_after hqx ?hbk) ?_; (case hbk => exact blk_new _ _ _ _ rfl); intro f0 f1 f2 f3 f4 y0 y1 y2 y3 y4 hzz)); (refine with_frq (S := fun j => W0.heap.size <= j) (w0 := W0) ?hfr hqx ?_); (case hfr => (repeat (first | with_reducible exact HFR | with_reducible exact Quiet0.fr hqc | with_reducible exact Fr.refl _ _ | with_reducible refine Fr.trans ?_ (Fr.alloc _ _ _) | with_reducible refine Fr.trans ?_ (Fr.drew _ _) | ((with_reducible refine Fr.trans ?_ (Fr.setCell _ _ _ _ ?hsd)); (case hsd => (simp <;> omega))) | fail))); intro HFR))
  all_goals
   clear hix HSH a0 HBC HBF HB0
   generalize shapeCells = sc at *
   go_step
   go_step
   go_meet
   refine ⟨_, rfl, ?hbb, ?hqq⟩
   case hbb =>
    first
    | with_reducible exact heap_alloc_new _ _
    | with_reducible exact set5_block hzz
   case hqq =>
    unfold Quiet0
    have h0 : Fr (fun _ => False) W0 wx := HFR.mono (fun i hi h => by have h2 : W0.heap.size <= i := h; omega)
    first
    | with_reducible exact Fr.trans h0 (Fr.alloc _ _ _)
    | (with_reducible refine Fr.trans' (T := fun j => j = W0.heap.size) h0 ?_ (fun i hi e => by omega)
       with_reducible exact set5_fr _ _ _ _ _ _ _)
 case rest =>
  rename World => wx
  obtain ⟨sb, rfl, hsb, hqx⟩ := hcut
  have HSB : Hid (∀ W, Quiet0 wx W -> W.heap[sb]? = some (.cells #[.bool sn, .bool st, .int .i64 le, .int .i64 mo, .int .i64 tp] 136 (0, 0))) := fun W h => (h.block _ (lt_of_block hsb) (fun h => h)).trans hsb
  have HQX := hid hqx
  have HRES := HRES0
  clear HBC HBF HSH hix HRES0 hsb hqx
  obtain ⟨b0, b1, b2, b3, b4, b5, b6, b7, b8⟩ := cells9_block (h := ⟨k, nm, n, tk, tn, tp0, fr, en⟩) (HB0.out _ HQX.out)
  obtain ⟨s0, s1, s2, s3, s4⟩ := cells5 (HSB.out _ (Quiet0.refl wx))
  generalize sameT tk tn tp0 0 0 .nil = sm at *
  generalize rightT tk tn tp0 = rt at *
  generalize Fo.vars [] (.cons tk tn tp0 .nil) = L at *
  unfold tyv at HSAME HRIGHT
  cases sn
  ·cases hbn : nm.toList.isEmpty
   ·have e2 : ¬ nm.toList = [] := by simpa using hbn
    have e3 : nm.toList.isEmpty = false := hbn
    rw [hbn] at HRES
    clear hbn
    have HX1 := hid (Quiet0.refl wx)
    cases st
    ·go_wp2_with fail
     refine (HSAME.out _ (HQ0.out.trans HQX.out)).mono ?_; rintro e w5 ⟨rfl, hq5⟩
     have HF := hid ((HQ0.out.trans HQX.out).trans hq5)
     have HF0 := hid (HQX.out.trans hq5)
     have HF1 := hid (HX1.out.trans hq5)
     clear hq5
     clear b0 b1 b2 b3 b4 b5 b6 b7 b8 s0 s1 s2 s3 s4
     obtain ⟨b0, b1, b2, b3, b4, b5, b6, b7, b8⟩ := cells9_block (h := ⟨k, nm, n, tk, tn, tp0, fr, en⟩) (HB0.out _ HF0.out)
     obtain ⟨s0, s1, s2, s3, s4⟩ := cells5 (HSB.out _ HF1.out)
     change Hid (res = (false && sm && decide (0 <= n) && decide (n <= tp) && decide (le <= (l2 : Int)) && decide ((l2 : Int) <= mo))) at HRES
     generalize sm = bt at *
     go_upto_region 11 with fail
     go_wp2_with fail
     all_goals first
     | (exfalso; omega)
     | (go_ret; exact ⟨by rw [HRES.out]; simp <;> omega, HF.out⟩)
    ·go_wp2_with fail
     refine (HSAME.out _ (HQ0.out.trans HQX.out)).mono ?_; rintro e w3 ⟨rfl, hq3⟩
     have HE0 := hid (HQX.out.trans hq3)
     have HE1 := hid (HX1.out.trans hq3)
     clear hq3 b0 b1 b2 b3 b4 b5 b6 b7 b8 s0 s1 s2 s3 s4
     obtain ⟨b0, b1, b2, b3, b4, b5, b6, b7, b8⟩ := cells9_block (h := ⟨k, nm, n, tk, tn, tp0, fr, en⟩) (HB0.out _ HE0.out)
     obtain ⟨s0, s1, s2, s3, s4⟩ := cells5 (HSB.out _ HE1.out)
     go_wp2_with fail
     refine (HRIGHT.out _ (HQ0.out.trans HE0.out)).mono ?_; rintro e w5 ⟨rfl, hq5⟩
     have HF := hid ((HQ0.out.trans HE0.out).trans hq5)
     have HF0 := hid (HE0.out.trans hq5)
     have HF1 := hid (HE1.out.trans hq5)
     clear hq5
     clear b0 b1 b2 b3 b4 b5 b6 b7 b8 s0 s1 s2 s3 s4
     obtain ⟨b0, b1, b2, b3, b4, b5, b6, b7, b8⟩ := cells9_block (h := ⟨k, nm, n, tk, tn, tp0, fr, en⟩) (HB0.out _ HF0.out)
     obtain ⟨s0, s1, s2, s3, s4⟩ := cells5 (HSB.out _ HF1.out)
     cases rt
     ·change Hid (res = (false && (false && L.isEmpty) && decide (0 <= n) && decide (n <= tp) && decide (le <= (l2 : Int)) && decide ((l2 : Int) <= mo))) at HRES
      go_upto_region 11 with fail
      go_wp2_with fail
      all_goals first
      | (exfalso; omega)
      | (go_ret; exact ⟨by rw [HRES.out]; simp <;> omega, HF.out⟩)
     ·change Hid (res = (false && (true && L.isEmpty) && decide (0 <= n) && decide (n <= tp) && decide (le <= (l2 : Int)) && decide ((l2 : Int) <= mo))) at HRES
      obtain ⟨W6, hW6⟩ : ∃ W6, W6 = w5.alloc (.cells #[.int .i64 tk, .int .i64 tn, .slice o1 l1 c1] 24) := ⟨_, rfl⟩
      obtain ⟨vb, hvb⟩ : ∃ vb, vb = w5.heap.size := ⟨_, rfl⟩
      have hb6 : W6.heap[vb]? = some (.cells #[.int .i64 tk, .int .i64 tn, .slice o1 l1 c1] 24 (0, 0)) := by rw [hW6, hvb]; exact heap_alloc_new _ _
      have HQ6 : Hid (Quiet0 w5 W6) := by rw [hW6]; exact Quiet0.alloc _ _
      have HVC := hid (HVARS.out W6 vb (HF.out.trans HQ6.out) hb6)
      rw [hW6, hvb] at HVC
      clear hb6 hW6 hvb HQ6
      go_wp2_with fail
      refine HVC.out.mono ?_; rintro e w7 ⟨va, vc, rfl, hq7⟩
      replace HF := hid ((HF.out.trans (Quiet0.alloc _ _)).trans hq7)
      have HG0 := hid ((HF0.out.trans (Quiet0.alloc _ _)).trans hq7)
      have HG1 := hid ((HF1.out.trans (Quiet0.alloc _ _)).trans hq7)
      clear hq7
      clear b0 b1 b2 b3 b4 b5 b6 b7 b8 s0 s1 s2 s3 s4
      obtain ⟨b0, b1, b2, b3, b4, b5, b6, b7, b8⟩ := cells9_block (h := ⟨k, nm, n, tk, tn, tp0, fr, en⟩) (HB0.out _ HG0.out)
      obtain ⟨s0, s1, s2, s3, s4⟩ := cells5 (HSB.out _ HG1.out)
      cases L
      ·change Hid (res = (false && true && decide (0 <= n) && decide (n <= tp) && decide (le <= (l2 : Int)) && decide ((l2 : Int) <= mo))) at HRES
       have hl0 : ((([] : List Int).length : Nat) : Int) = 0 := rfl
       go_upto_region 11 with fail
       go_wp2_with fail
       all_goals first
       | (exfalso; omega)
       | (go_ret; exact ⟨by rw [HRES.out]; simp <;> omega, HF.out⟩)
      ·rename_i x0 r0
       change Hid (res = (false && false && decide (0 <= n) && decide (n <= tp) && decide (le <= (l2 : Int)) && decide ((l2 : Int) <= mo))) at HRES
       have hl0 : ¬ (((x0 :: r0).length : Nat) : Int) = 0 := by simp; omega
       generalize (((x0 :: r0).length : Nat)) = ln at *
       go_upto_region 11 with fail
       go_wp2_with fail
       all_goals first
       | (exfalso; omega)
       | (go_ret; exact ⟨by rw [HRES.out]; simp <;> omega, HF.out⟩)
   ·have e2 : nm.toList = [] := by simpa using hbn
    have e3 : nm.toList.isEmpty = true := hbn
    rw [hbn] at HRES
    clear hbn
    have HX1 := hid (Quiet0.refl wx)
    cases st
    ·go_wp2_with fail
     refine (HSAME.out _ (HQ0.out.trans HQX.out)).mono ?_; rintro e w5 ⟨rfl, hq5⟩
     have HF := hid ((HQ0.out.trans HQX.out).trans hq5)
     have HF0 := hid (HQX.out.trans hq5)
     have HF1 := hid (HX1.out.trans hq5)
     clear hq5
     clear b0 b1 b2 b3 b4 b5 b6 b7 b8 s0 s1 s2 s3 s4
     obtain ⟨b0, b1, b2, b3, b4, b5, b6, b7, b8⟩ := cells9_block (h := ⟨k, nm, n, tk, tn, tp0, fr, en⟩) (HB0.out _ HF0.out)
     obtain ⟨s0, s1, s2, s3, s4⟩ := cells5 (HSB.out _ HF1.out)
     change Hid (res = (true && sm && decide (0 <= n) && decide (n <= tp) && decide (le <= (l2 : Int)) && decide ((l2 : Int) <= mo))) at HRES
     generalize sm = bt at *
     go_upto_region 11 with fail
     cases bt
     ·go_wp2_with fail
      all_goals first
      | (exfalso; omega)
      | (go_ret; exact ⟨by rw [HRES.out]; simp <;> omega, HF.out⟩)
     ·by_cases g1 : 0 <= n
      ·by_cases g2 : n <= tp
       ·by_cases g3 : le <= (l2 : Int)
        ·by_cases g4 : (l2 : Int) <= mo
         ·go_wp2_with fail
          all_goals first
          | (exfalso; omega)
          | (go_ret; exact ⟨by rw [HRES.out]; simp [g1, g2, g3, g4] <;> omega, HF.out⟩)
         ·have g4' : mo < (l2 : Int) := by omega
          go_wp2_with fail
          all_goals first
          | (exfalso; omega)
          | (go_ret; exact ⟨by rw [HRES.out]; simp [g1, g2, g3, g4] <;> omega, HF.out⟩)
        ·have g3' : (l2 : Int) < le := by omega
         go_wp2_with fail
         all_goals first
         | (exfalso; omega)
         | (go_ret; exact ⟨by rw [HRES.out]; simp <;> omega, HF.out⟩)
       ·have g2' : tp < n := by omega
        go_wp2_with fail
        all_goals first
        | (exfalso; omega)
        | (go_ret; exact ⟨by rw [HRES.out]; simp <;> omega, HF.out⟩)
      ·have g1' : n < 0 := by omega
       go_wp2_with fail
       all_goals first
       | (exfalso; omega)
       | (go_ret; exact ⟨by rw [HRES.out]; simp <;> omega, HF.out⟩)
    ·go_wp2_with fail
     refine (HSAME.out _ (HQ0.out.trans HQX.out)).mono ?_; rintro e w3 ⟨rfl, hq3⟩
     have HE0 := hid (HQX.out.trans hq3)
     have HE1 := hid (HX1.out.trans hq3)
     clear hq3 b0 b1 b2 b3 b4 b5 b6 b7 b8 s0 s1 s2 s3 s4
     obtain ⟨b0, b1, b2, b3, b4, b5, b6, b7, b8⟩ := cells9_block (h := ⟨k, nm, n, tk, tn, tp0, fr, en⟩) (HB0.out _ HE0.out)
     obtain ⟨s0, s1, s2, s3, s4⟩ := cells5 (HSB.out _ HE1.out)
     go_wp2_with fail
     refine (HRIGHT.out _ (HQ0.out.trans HE0.out)).mono ?_; rintro e w5 ⟨rfl, hq5⟩
     have HF := hid ((HQ0.out.trans HE0.out).trans hq5)
     have HF0 := hid (HE0.out.trans hq5)
     have HF1 := hid (HE1.out.trans hq5)
     clear hq5
     clear b0 b1 b2 b3 b4 b5 b6 b7 b8 s0 s1 s2 s3 s4
     obtain ⟨b0, b1, b2, b3, b4, b5, b6, b7, b8⟩ := cells9_block (h := ⟨k, nm, n, tk, tn, tp0, fr, en⟩) (HB0.out _ HF0.out)
     obtain ⟨s0, s1, s2, s3, s4⟩ := cells5 (HSB.out _ HF1.out)
     cases rt
     ·change Hid (res = (true && (false && L.isEmpty) && decide (0 <= n) && decide (n <= tp) && decide (le <= (l2 : Int)) && decide ((l2 : Int) <= mo))) at HRES
      go_upto_region 11 with fail
      go_wp2_with fail
      all_goals first
      | (exfalso; omega)
      | (go_ret; exact ⟨by rw [HRES.out]; simp <;> omega, HF.out⟩)
     ·change Hid (res = (true && (true && L.isEmpty) && decide (0 <= n) && decide (n <= tp) && decide (le <= (l2 : Int)) && decide ((l2 : Int) <= mo))) at HRES
      obtain ⟨W6, hW6⟩ : ∃ W6, W6 = w5.alloc (.cells #[.int .i64 tk, .int .i64 tn, .slice o1 l1 c1] 24) := ⟨_, rfl⟩
      obtain ⟨vb, hvb⟩ : ∃ vb, vb = w5.heap.size := ⟨_, rfl⟩
      have hb6 : W6.heap[vb]? = some (.cells #[.int .i64 tk, .int .i64 tn, .slice o1 l1 c1] 24 (0, 0)) := by rw [hW6, hvb]; exact heap_alloc_new _ _
      have HQ6 : Hid (Quiet0 w5 W6) := by rw [hW6]; exact Quiet0.alloc _ _
      have HVC := hid (HVARS.out W6 vb (HF.out.trans HQ6.out) hb6)
      rw [hW6, hvb] at HVC
      clear hb6 hW6 hvb HQ6
      go_wp2_with fail
      refine HVC.out.mono ?_; rintro e w7 ⟨va, vc, rfl, hq7⟩
      replace HF := hid ((HF.out.trans (Quiet0.alloc _ _)).trans hq7)
      have HG0 := hid ((HF0.out.trans (Quiet0.alloc _ _)).trans hq7)
      have HG1 := hid ((HF1.out.trans (Quiet0.alloc _ _)).trans hq7)
      clear hq7
      clear b0 b1 b2 b3 b4 b5 b6 b7 b8 s0 s1 s2 s3 s4
      obtain ⟨b0, b1, b2, b3, b4, b5, b6, b7, b8⟩ := cells9_block (h := ⟨k, nm, n, tk, tn, tp0, fr, en⟩) (HB0.out _ HG0.out)
      obtain ⟨s0, s1, s2, s3, s4⟩ := cells5 (HSB.out _ HG1.out)
      cases L
      ·change Hid (res = (true && true && decide (0 <= n) && decide (n <= tp) && decide (le <= (l2 : Int)) && decide ((l2 : Int) <= mo))) at HRES
       have hl0 : ((([] : List Int).length : Nat) : Int) = 0 := rfl
       go_upto_region 11 with fail
       by_cases g1 : 0 <= n
       ·by_cases g2 : n <= tp
        ·by_cases g3 : le <= (l2 : Int)
         ·by_cases g4 : (l2 : Int) <= mo
          ·go_wp2_with fail
           all_goals first
           | (exfalso; omega)
           | (go_ret; exact ⟨by rw [HRES.out]; simp [g1, g2, g3, g4] <;> omega, HF.out⟩)
          ·have g4' : mo < (l2 : Int) := by omega
           go_wp2_with fail
           all_goals first
           | (exfalso; omega)
           | (go_ret; exact ⟨by rw [HRES.out]; simp [g1, g2, g3, g4] <;> omega, HF.out⟩)
         ·have g3' : (l2 : Int) < le := by omega
          go_wp2_with fail
          all_goals first
          | (exfalso; omega)
          | (go_ret; exact ⟨by rw [HRES.out]; simp <;> omega, HF.out⟩)
        ·have g2' : tp < n := by omega
         go_wp2_with fail
         all_goals first
         | (exfalso; omega)
         | (go_ret; exact ⟨by rw [HRES.out]; simp <;> omega, HF.out⟩)
       ·have g1' : n < 0 := by omega
        go_wp2_with fail
        all_goals first
        | (exfalso; omega)
        | (go_ret; exact ⟨by rw [HRES.out]; simp <;> omega, HF.out⟩)
      ·rename_i x0 r0
       change Hid (res = (true && false && decide (0 <= n) && decide (n <= tp) && decide (le <= (l2 : Int)) && decide ((l2 : Int) <= mo))) at HRES
       have hl0 : ¬ (((x0 :: r0).length : Nat) : Int) = 0 := by simp; omega
       generalize (((x0 :: r0).length : Nat)) = ln at *
       go_upto_region 11 with fail
       go_wp2_with fail
       all_goals first
       | (exfalso; omega)
       | (go_ret; exact ⟨by rw [HRES.out]; simp <;> omega, HF.out⟩)
  ·go_wp2_with fail
   refine (HNAME.out _ (HQ0.out.trans HQX.out)).mono ?_; rintro e w4 ⟨rfl, hq4⟩
   have HX0 := hid (HQX.out.trans hq4)
   have HX1 := hid hq4
   clear hq4
   clear b0 b1 b2 b3 b4 b5 b6 b7 b8 s0 s1 s2 s3 s4
   obtain ⟨b0, b1, b2, b3, b4, b5, b6, b7, b8⟩ := cells9_block (h := ⟨k, nm, n, tk, tn, tp0, fr, en⟩) (HB0.out _ HX0.out)
   obtain ⟨s0, s1, s2, s3, s4⟩ := cells5 (HSB.out _ HX1.out)
   generalize Lx.nameB nm.data.toList = bn at *
   cases st
   ·go_wp2_with fail
    refine (HSAME.out _ (HQ0.out.trans HX0.out)).mono ?_; rintro e w5 ⟨rfl, hq5⟩
    have HF := hid ((HQ0.out.trans HX0.out).trans hq5)
    have HF0 := hid (HX0.out.trans hq5)
    have HF1 := hid (HX1.out.trans hq5)
    clear hq5
    clear b0 b1 b2 b3 b4 b5 b6 b7 b8 s0 s1 s2 s3 s4
    obtain ⟨b0, b1, b2, b3, b4, b5, b6, b7, b8⟩ := cells9_block (h := ⟨k, nm, n, tk, tn, tp0, fr, en⟩) (HB0.out _ HF0.out)
    obtain ⟨s0, s1, s2, s3, s4⟩ := cells5 (HSB.out _ HF1.out)
    change Hid (res = (bn && sm && decide (0 <= n) && decide (n <= tp) && decide (le <= (l2 : Int)) && decide ((l2 : Int) <= mo))) at HRES
    generalize sm = bt at *
    go_upto_region 11 with fail
    cases bn
    ·go_wp2_with fail
     all_goals first
     | (exfalso; omega)
     | (go_ret; exact ⟨by rw [HRES.out]; simp <;> omega, HF.out⟩)
    ·cases bt
     ·go_wp2_with fail
      all_goals first
      | (exfalso; omega)
      | (go_ret; exact ⟨by rw [HRES.out]; simp <;> omega, HF.out⟩)
     ·by_cases g1 : 0 <= n
      ·by_cases g2 : n <= tp
       ·by_cases g3 : le <= (l2 : Int)
        ·by_cases g4 : (l2 : Int) <= mo
         ·go_wp2_with fail
          all_goals first
          | (exfalso; omega)
          | (go_ret; exact ⟨by rw [HRES.out]; simp [g1, g2, g3, g4] <;> omega, HF.out⟩)
         ·have g4' : mo < (l2 : Int) := by omega
          go_wp2_with fail
          all_goals first
          | (exfalso; omega)
          | (go_ret; exact ⟨by rw [HRES.out]; simp [g1, g2, g3, g4] <;> omega, HF.out⟩)
        ·have g3' : (l2 : Int) < le := by omega
         go_wp2_with fail
         all_goals first
         | (exfalso; omega)
         | (go_ret; exact ⟨by rw [HRES.out]; simp <;> omega, HF.out⟩)
       ·have g2' : tp < n := by omega
        go_wp2_with fail
        all_goals first
        | (exfalso; omega)
        | (go_ret; exact ⟨by rw [HRES.out]; simp <;> omega, HF.out⟩)
      ·have g1' : n < 0 := by omega
       go_wp2_with fail
       all_goals first
       | (exfalso; omega)
       | (go_ret; exact ⟨by rw [HRES.out]; simp <;> omega, HF.out⟩)
   ·go_wp2_with fail
    refine (HSAME.out _ (HQ0.out.trans HX0.out)).mono ?_; rintro e w3 ⟨rfl, hq3⟩
    have HE0 := hid (HX0.out.trans hq3)
    have HE1 := hid (HX1.out.trans hq3)
    clear hq3 b0 b1 b2 b3 b4 b5 b6 b7 b8 s0 s1 s2 s3 s4
    obtain ⟨b0, b1, b2, b3, b4, b5, b6, b7, b8⟩ := cells9_block (h := ⟨k, nm, n, tk, tn, tp0, fr, en⟩) (HB0.out _ HE0.out)
    obtain ⟨s0, s1, s2, s3, s4⟩ := cells5 (HSB.out _ HE1.out)
    go_wp2_with fail
    refine (HRIGHT.out _ (HQ0.out.trans HE0.out)).mono ?_; rintro e w5 ⟨rfl, hq5⟩
    have HF := hid ((HQ0.out.trans HE0.out).trans hq5)
    have HF0 := hid (HE0.out.trans hq5)
    have HF1 := hid (HE1.out.trans hq5)
    clear hq5
    clear b0 b1 b2 b3 b4 b5 b6 b7 b8 s0 s1 s2 s3 s4
    obtain ⟨b0, b1, b2, b3, b4, b5, b6, b7, b8⟩ := cells9_block (h := ⟨k, nm, n, tk, tn, tp0, fr, en⟩) (HB0.out _ HF0.out)
    obtain ⟨s0, s1, s2, s3, s4⟩ := cells5 (HSB.out _ HF1.out)
    cases rt
    ·change Hid (res = (bn && (false && L.isEmpty) && decide (0 <= n) && decide (n <= tp) && decide (le <= (l2 : Int)) && decide ((l2 : Int) <= mo))) at HRES
     go_upto_region 11 with fail
     cases bn
     ·go_wp2_with fail
      all_goals first
      | (exfalso; omega)
      | (go_ret; exact ⟨by rw [HRES.out]; simp <;> omega, HF.out⟩)
     ·go_wp2_with fail
      all_goals first
      | (exfalso; omega)
      | (go_ret; exact ⟨by rw [HRES.out]; simp <;> omega, HF.out⟩)
    ·change Hid (res = (bn && (true && L.isEmpty) && decide (0 <= n) && decide (n <= tp) && decide (le <= (l2 : Int)) && decide ((l2 : Int) <= mo))) at HRES
     obtain ⟨W6, hW6⟩ : ∃ W6, W6 = w5.alloc (.cells #[.int .i64 tk, .int .i64 tn, .slice o1 l1 c1] 24) := ⟨_, rfl⟩
     obtain ⟨vb, hvb⟩ : ∃ vb, vb = w5.heap.size := ⟨_, rfl⟩
     have hb6 : W6.heap[vb]? = some (.cells #[.int .i64 tk, .int .i64 tn, .slice o1 l1 c1] 24 (0, 0)) := by rw [hW6, hvb]; exact heap_alloc_new _ _
     have HQ6 : Hid (Quiet0 w5 W6) := by rw [hW6]; exact Quiet0.alloc _ _
     have HVC := hid (HVARS.out W6 vb (HF.out.trans HQ6.out) hb6)
     rw [hW6, hvb] at HVC
     clear hb6 hW6 hvb HQ6
     go_wp2_with fail
     refine HVC.out.mono ?_; rintro e w7 ⟨va, vc, rfl, hq7⟩
     replace HF := hid ((HF.out.trans (Quiet0.alloc _ _)).trans hq7)
     have HG0 := hid ((HF0.out.trans (Quiet0.alloc _ _)).trans hq7)
     have HG1 := hid ((HF1.out.trans (Quiet0.alloc _ _)).trans hq7)
     clear hq7
     clear b0 b1 b2 b3 b4 b5 b6 b7 b8 s0 s1 s2 s3 s4
     obtain ⟨b0, b1, b2, b3, b4, b5, b6, b7, b8⟩ := cells9_block (h := ⟨k, nm, n, tk, tn, tp0, fr, en⟩) (HB0.out _ HG0.out)
     obtain ⟨s0, s1, s2, s3, s4⟩ := cells5 (HSB.out _ HG1.out)
     cases L
     ·change Hid (res = (bn && true && decide (0 <= n) && decide (n <= tp) && decide (le <= (l2 : Int)) && decide ((l2 : Int) <= mo))) at HRES
      have hl0 : ((([] : List Int).length : Nat) : Int) = 0 := rfl
      go_upto_region 11 with fail
      cases bn
      ·go_wp2_with fail
       all_goals first
       | (exfalso; omega)
       | (go_ret; exact ⟨by rw [HRES.out]; simp <;> omega, HF.out⟩)
      ·by_cases g1 : 0 <= n
       ·by_cases g2 : n <= tp
        ·by_cases g3 : le <= (l2 : Int)
         ·by_cases g4 : (l2 : Int) <= mo
          ·go_wp2_with fail
           all_goals first
           | (exfalso; omega)
           | (go_ret; exact ⟨by rw [HRES.out]; simp [g1, g2, g3, g4] <;> omega, HF.out⟩)
          ·have g4' : mo < (l2 : Int) := by omega
           go_wp2_with fail
           all_goals first
           | (exfalso; omega)
           | (go_ret; exact ⟨by rw [HRES.out]; simp [g1, g2, g3, g4] <;> omega, HF.out⟩)
         ·have g3' : (l2 : Int) < le := by omega
          go_wp2_with fail
          all_goals first
          | (exfalso; omega)
          | (go_ret; exact ⟨by rw [HRES.out]; simp <;> omega, HF.out⟩)
        ·have g2' : tp < n := by omega
         go_wp2_with fail
         all_goals first
         | (exfalso; omega)
         | (go_ret; exact ⟨by rw [HRES.out]; simp <;> omega, HF.out⟩)
       ·have g1' : n < 0 := by omega
        go_wp2_with fail
        all_goals first
        | (exfalso; omega)
        | (go_ret; exact ⟨by rw [HRES.out]; simp <;> omega, HF.out⟩)
     ·rename_i x0 r0
      change Hid (res = (bn && false && decide (0 <= n) && decide (n <= tp) && decide (le <= (l2 : Int)) && decide ((l2 : Int) <= mo))) at HRES
      have hl0 : ¬ (((x0 :: r0).length : Nat) : Int) = 0 := by simp; omega
      generalize (((x0 :: r0).length : Nat)) = ln at *
      go_upto_region 11 with fail
      cases bn
      ·go_wp2_with fail
       all_goals first
       | (exfalso; omega)
       | (go_ret; exact ⟨by rw [HRES.out]; simp <;> omega, HF.out⟩)
      ·go_wp2_with fail
       all_goals first
       | (exfalso; omega)
       | (go_ret; exact ⟨by rw [HRES.out]; simp <;> omega, HF.out⟩)
end
section
namespace Sc
section
variable (ok : ByteArray -> Bool)
def newNm (h : Nd) (l : List ByteArray) : ByteArray := match l with
 | [] => h.nm
 | a :: _ => if bindK h.k && ok a then a else h.nm
def restNm (h : Nd) (l : List ByteArray) : List ByteArray := if bindK h.k then l.tail else l
def varNm (x y : List ByteArray) (s : ByteArray) : ByteArray := if 0 <= ix x s then y.getD (ix x s).toNat ByteArray.empty else s
def callR : Int -> ByteArray -> ByteArray -> Nat -> List ByteArray -> List ByteArray -> List ByteArray -> To -> To × List ByteArray
 | _, _, _, _, _, _, l, .nil => (.nil, l)
 | bk, nm, nm2, i, x, y, l, .cons h ps r =>
  let q : Nd × To × List ByteArray := if h.k = 1 then ({ h with nm := varNm (envOf bk nm i x) (envOf bk nm2 i y) h.nm }, ps, l) else
   ({ h with nm := newNm ok h l }, (callR h.k h.nm (newNm ok h l) 0 (envOf bk nm i x) (envOf bk nm2 i y) (restNm h l) ps).1, (callR h.k h.nm (newNm ok h l) 0 (envOf bk nm i x) (envOf bk nm2 i y) (restNm h l) ps).2)
  (.cons q.1 q.2.1 (callR bk nm nm2 (i + 1) x y q.2.2 r).1, (callR bk nm nm2 (i + 1) x y q.2.2 r).2)
def call1 (x y l : List ByteArray) (h : Nd) (ps : To) : Nd × To × List ByteArray :=
 if h.k = 1 then ({ h with nm := varNm x y h.nm }, ps, l) else
  ({ h with nm := newNm ok h l }, (callR ok h.k h.nm (newNm ok h l) 0 x y (restNm h l) ps).1, (callR ok h.k h.nm (newNm ok h l) 0 x y (restNm h l) ps).2)
theorem callR_cons (bk : Int) (nm nm2 : ByteArray) (i : Nat) (x y l : List ByteArray) (h : Nd) (ps r : To) : callR ok bk nm nm2 i x y l (.cons h ps r) =
    (.cons (call1 ok (envOf bk nm i x) (envOf bk nm2 i y) l h ps).1 (call1 ok (envOf bk nm i x) (envOf bk nm2 i y) l h ps).2.1 (callR ok bk nm nm2 (i + 1) x y (call1 ok (envOf bk nm i x) (envOf bk nm2 i y) l h ps).2.2 r).1,
     (callR ok bk nm nm2 (i + 1) x y (call1 ok (envOf bk nm i x) (envOf bk nm2 i y) l h ps).2.2 r).2) := rfl
theorem callR_length : ∀ (f : To) (bk : Int) (nm nm2 : ByteArray) (i : Nat) (x y l : List ByteArray), (callR ok bk nm nm2 i x y l f).1.length = f.length
 | .nil, _, _, _, _, _, _, _ => rfl
 | .cons h ps r, bk, nm, nm2, i, x, y, l => by rw [callR_cons]; simp only [To.length]; rw [callR_length r]
theorem callR_size : ∀ (f : To) (bk : Int) (nm nm2 : ByteArray) (i : Nat) (x y l : List ByteArray), (callR ok bk nm nm2 i x y l f).1.size = f.size
 | .nil, _, _, _, _, _, _, _ => rfl
 | .cons h ps r, bk, nm, nm2, i, x, y, l => by
  rw [callR_cons]; simp only [To.size]; rw [callR_size r]
  unfold call1
  by_cases hk : h.k = 1
  ·simp only [if_pos hk]
  ·simp only [if_neg hk]; rw [callR_size ps]
theorem call1_head (x y l : List ByteArray) (h : Nd) (ps : To) : ∃ s, (call1 ok x y l h ps).1 = { h with nm := s } := by
 unfold call1; split
 ·exact ⟨_, rfl⟩
 ·exact ⟨_, rfl⟩
theorem callR_all {G : Nd -> Prop} (hG : ∀ h s, G h -> G { h with nm := s }) : ∀ (f : To) (bk : Int) (nm nm2 : ByteArray) (i : Nat) (x y l : List ByteArray), allT G f -> allT G (callR ok bk nm nm2 i x y l f).1
 | .nil, _, _, _, _, _, _, _, _ => trivial
 | .cons h ps r, bk, nm, nm2, i, x, y, l, ⟨h1, h2, h3⟩ => by
  rw [callR_cons]
  refine ⟨?_, ?_, callR_all hG r _ _ _ _ _ _ _ h3⟩
  ·obtain ⟨s, hs⟩ := call1_head ok (envOf bk nm i x) (envOf bk nm2 i y) l h ps
   rw [hs]; exact hG h s h1
  ·unfold call1; split
   ·exact h2
   ·exact callR_all hG ps _ _ _ _ _ _ _ h2
end
theorem refA1_refl_aux : ∀ (f : To) (bk : Int) (nm : ByteArray) (i : Nat) (x : List ByteArray), refAR bk nm bk nm i x x f f = true
 | .nil, _, _, _, _ => rfl
 | .cons h ps r, bk, nm, i, x => by
  rw [refAR_cons, refA1_refl_aux r, Bool.and_true]
  unfold refA1
  have := refA1_refl_aux ps h.k h.nm 0 (envOf bk nm i x)
  have hs : sameT h.tk h.tn h.tp h.tk h.tn h.tp = true := by unfold sameT; simp [Fo.same_refl]
  rw [hs]
  by_cases h1 : h.k = 1
  ·simp [h1]
  ·simp [h1, this]
theorem refA1_refl (x : List ByteArray) (h : Nd) (ps : To) : refA1 x x h ps h ps = true := by
 have := refA1_refl_aux (.cons h ps .nil) 0 ByteArray.empty 0 x
 rw [refAR_cons] at this
 simp only [Bool.and_eq_true] at this
 exact this.1
def freeL : Int -> ByteArray -> Nat -> List ByteArray -> To -> List Nd
 | _, _, _, _, .nil => []
 | bk, nm, i, e, .cons h ps r => (if h.k = 1 then (if ix (envOf bk nm i e) h.nm < 0 then [h] else []) else freeL h.k h.nm 0 (envOf bk nm i e) ps) ++ freeL bk nm (i + 1) e r
def free1 (e : List ByteArray) (h : Nd) (ps : To) : List Nd := if h.k = 1 then (if ix e h.nm < 0 then [h] else []) else freeL h.k h.nm 0 e ps
theorem freeL_cons (bk : Int) (nm : ByteArray) (i : Nat) (e : List ByteArray) (h : Nd) (ps r : To) : freeL bk nm i e (.cons h ps r) = free1 (envOf bk nm i e) h ps ++ freeL bk nm (i + 1) e r := rfl
def frS (s : List Nd) (x : Nd) (e : List ByteArray) : List Nd := if ix e x.nm < 0 then s ++ [x] else s
theorem wk_free (out : Nd -> List ByteArray -> Nd) : ∀ (f : To) (bk : Int) (nm : ByteArray) (i : Nat) (s : List Nd) (e : List ByteArray), (wk frS out bk nm i s e f).1 = s ++ freeL bk nm i e f
 | .nil, _, _, _, s, _ => by simp [wk, freeL]
 | .cons h ps r, bk, nm, i, s, e => by
  rw [wk_cons, freeL_cons]
  simp only
  rw [wk_free out r]
  unfold wk1 free1
  by_cases h1 : h.k = 1
  ·simp only [if_pos h1]
   unfold frS
   split <;> simp
  ·simp only [if_neg h1]
   rw [wk_free out ps]; simp
theorem wk1_free (out : Nd -> List ByteArray -> Nd) (s : List Nd) (e : List ByteArray) (h : Nd) (ps : To) : (wk1 frS out s e h ps).1 = s ++ free1 e h ps := by
 unfold wk1 free1
 by_cases h1 : h.k = 1
 ·simp only [if_pos h1]; unfold frS; split <;> simp
 ·simp only [if_neg h1]; rw [wk_free out ps]
theorem alike_free : ∀ (f g : To) (bk : Int) (nm : ByteArray) (bk' : Int) (nm' : ByteArray) (i : Nat) (x y : List ByteArray), refAR bk nm bk' nm' i x y f g = true -> (freeL bk nm i x f = [] ↔ freeL bk' nm' i y g = [])
 | .nil, .nil, _, _, _, _, _, _, _, _ => by simp [freeL]
 | .nil, .cons _ _ _, _, _, _, _, _, _, _, h => by simp [refAR] at h
 | .cons _ _ _, .nil, _, _, _, _, _, _, _, h => by simp [refAR] at h
 | .cons h ps r, .cons h' ps' r', bk, nm, bk', nm', i, x, y, e => by
  rw [refAR_cons, Bool.and_eq_true] at e
  have ih := alike_free r r' _ _ _ _ _ _ _ e.2
  rw [freeL_cons, freeL_cons, List.append_eq_nil_iff, List.append_eq_nil_iff, ih]
  have key : free1 (envOf bk nm i x) h ps = [] ↔ free1 (envOf bk' nm' i y) h' ps' = [] := by
   have e1 := e.1
   unfold refA1 at e1
   simp only [Bool.and_eq_true, beq_iff_eq] at e1
   obtain ⟨⟨⟨k1, k2⟩, k3⟩, k4⟩ := e1
   unfold free1
   by_cases h1 : h.k = 1
   ·have h1' : h'.k = 1 := by rw [<- k1]; exact h1
    rw [if_pos h1] at k4
    simp only [Bool.and_eq_true, beq_iff_eq] at k4
    rw [if_pos h1, if_pos h1', k4.1]
    split <;> simp
   ·have h1' : ¬ h'.k = 1 := by rw [<- k1]; exact h1
    rw [if_neg h1] at k4
    simp only [Bool.and_eq_true] at k4
    rw [if_neg h1, if_neg h1']
    exact alike_free ps ps' _ _ _ _ _ _ _ k4.2
  rw [key]
end Sc
end
section
namespace Cn
open Sc (envOf bindsB refAR refA1 refAR_cons ix ixE ixE_spec)
def RelV {α : Type} (bk : Int) (nm : ByteArray) (bk' : Int) (nm' : ByteArray) (x y : List ByteArray) : Nat -> List (Env -> α) -> List (Env -> α) -> Prop
 | _, [], [] => True
 | i, v :: vs, v' :: vs' => (∀ e e' : Env, e.map (·.1) = envOf bk nm i x -> e'.map (·.1) = envOf bk' nm' i y -> e.map (·.2) = e'.map (·.2) -> v e = v' e') /\ RelV bk nm bk' nm' x y (i + 1) vs vs'
 | _, _, _ => False
theorem RelV.getD {α : Type} {d : α} {bk : Int} {nm : ByteArray} {bk' : Int} {nm' : ByteArray} {x y : List ByteArray} : ∀ (i j : Nat) (vs vs' : List (Env -> α)), RelV bk nm bk' nm' x y i vs vs' -> ∀ e e' : Env, e.map (·.1) = envOf bk nm (i + j) x -> e'.map (·.1) = envOf bk' nm' (i + j) y -> e.map (·.2) = e'.map (·.2) ->
    vs.getD j (fun _ => d) e = vs'.getD j (fun _ => d) e'
 | _, _, [], [], _, _, _, _, _, _ => by simp
 | _, _, [], _ :: _, h, _, _, _, _, _ => h.elim
 | _, _, _ :: _, [], h, _, _, _, _, _ => h.elim
 | i, 0, v :: vs, v' :: vs', h, e, e', h1, h2, h3 => h.1 e e' h1 h2 h3
 | i, j + 1, v :: vs, v' :: vs', h, e, e', h1, h2, h3 => by
  have := RelV.getD (d := d) (i + 1) j vs vs' h.2 e e' (by rw [h1]; congr 1; omega) (by rw [h2]; congr 1; omega) h3
  simpa using this
theorem env_cons (k : Int) (nm : ByteArray) (j : Nat) (x : List ByteArray) (h : bindsB k j = true) : envOf k nm j x = nm :: x := by unfold envOf; rw [h]; rfl
theorem env_same (k : Int) (nm : ByteArray) (j : Nat) (x : List ByteArray) (h : bindsB k j = false) : envOf k nm j x = x := by unfold envOf; rw [h]; rfl
theorem alike_parts {x y : List ByteArray} {h : Nd} {ps : To} {h' : Nd} {ps' : To} (e : refA1 x y h ps h' ps' = true) : h.k = h'.k /\ (h.k = 1 -> ix x h.nm = ix y h'.nm) /\ (h.k ≠ 1 -> refAR h.k h.nm h'.k h'.nm 0 x y ps ps' = true) := by
 unfold refA1 at e
 simp only [Bool.and_eq_true, beq_iff_eq] at e
 obtain ⟨⟨⟨k1, k2⟩, k3⟩, k4⟩ := e
 refine ⟨k1, fun c => ?_, fun c => ?_⟩
 ·rw [if_pos c] at k4
  simp only [Bool.and_eq_true, beq_iff_eq] at k4
  exact k4.1
 ·rw [if_neg c] at k4
  simp only [Bool.and_eq_true] at k4
  exact k4.2
end Cn
end
section
open Go.RowKit
namespace Sc
theorem binds_any (k : Int) (i : Nat) (w : World) : Calls Tryz.prog 114 #[.int .i64 k, .int .i64 (i : Nat)] w fun e w' => e = .returned (.bool (bindsB k i)) /\ w = w' := by
 unfold bindsB
 have e1 : ((i : Int) == 1) = (i == 1) := by rw [Bool.eq_iff_iff, beq_iff_eq, beq_iff_eq]; omega
 generalize (i == 1) = r at *
 cases h4 : (k == 4)
 ·cases h7 : (k == 7)
  ·cases h6 : (k == 6)
   ·go_enter Tryz.func114, Tryz.ntmps114
    go_wp2_with fail
    go_ret
    exact ⟨rfl, rfl⟩
   ·go_enter Tryz.func114, Tryz.ntmps114
    go_wp2_with fail
    go_ret
    exact ⟨by simp, rfl⟩
  ·go_enter Tryz.func114, Tryz.ntmps114
   go_wp2_with fail
   go_ret
   exact ⟨rfl, rfl⟩
 ·go_enter Tryz.func114, Tryz.ntmps114
  go_wp2_with fail
  go_ret
  exact ⟨rfl, rfl⟩
theorem clip_any (o : Option Addr) (n c : Nat) (w : World) (hc : n <= c) (_ : o = none -> n = 0) : Calls Tryz.prog 115 #[.slice o n c] w fun e w' => e = .returned (.slice o n n) /\ w = w' := by
 go_enter Tryz.func115, Tryz.ntmps115
 go_wp2_with fail
 go_ret
 exact ⟨rfl, rfl⟩
theorem index_any (T : Nat -> Prop) (e : List ByteArray) (s : ByteArray) (o : Option Addr) (n c : Nat) (w : World) (h : NmIn T w o n e) (hz : n <= 1000000) : Calls Tryz.prog 94 #[.slice o n c, .string s] w fun x w' => x = .returned (.int .i64 (ix e s)) /\ w = w' := by
 have H := hid h
 have HN := hid h.1
 clear h
 go_enter Tryz.func94, Tryz.ntmps94
 go_wp2_with fail
 go_loopw [8] (fun t wr => ∃ i : Nat, t = .int .i64 i /\ i <= n /\ s ∉ e.take i /\ w = wr) (fun t _ => n - (intOf t).toNat)
 case atStart => exact ⟨0, rfl, Nat.zero_le _, by simp, rfl⟩
 case round =>
  obtain ⟨i, rfl, hi, hns, rfl⟩ := hrel
  by_cases hlt : i < n
  ·have hlt' : (i : Int) < n := by omega
   obtain ⟨a, ha⟩ : ∃ a, e[i]? = some a := ⟨_, List.getElem?_eq_getElem (by have := HN.out; omega)⟩
   obtain ⟨b, rfl, c0⟩ := H.out.at ha
   have hidx : ((n : Int) - 1 - i) = ((n - 1 - i : Nat) : Int) := by omega
   have hb1 : (0 : Int) <= (n : Int) - 1 - i := by omega
   have hb2 : (n : Int) - 1 - i < n := by omega
   have HNS := hid hns
   have HA := hid ha
   clear hns ha
   cases hx : (a.toList == s.toList)
   ·go_wp2_with fail
    go_roundw
    case rel => exact ⟨i + 1, by go_num, by omega, take_no HNS.out HA.out (fun e => by rw [str_eq.2 e] at hx; cases hx), trivial⟩
    case measure => simp [intOf]; omega
   ·have HR : Hid (ix e s = i) := ixE_hit (by rw [<- str_eq.1 hx]; exact HA.out) HNS.out
    go_wp2_with fail
    go_ret
    exact ⟨by first | (rw [HR.out]; done) | (rw [HR.out]; rfl), rfl⟩
  ·have hlt' : ¬ (i : Int) < n := by omega
   have HR : Hid (ix e s = -1) := ix_take hns (by have := HN.out; omega)
   clear hns
   go_wp2_with fail
   go_ret
   exact ⟨by first | (rw [HR.out]; done) | (rw [HR.out]; rfl), rfl⟩
theorem refIndex_any (T : Nat -> Prop) (e : List ByteArray) (s : ByteArray) (o : Option Addr) (n c : Nat) (w : World) (h : NmIn T w o n e) (hz : n <= 1000000) : Calls Tryz.prog 35 #[.slice o n c, .string s] w fun x w' => x = .returned (.int .i64 (ix e s)) /\ w = w' := by
 have H := hid h
 have HN := hid h.1
 clear h
 go_enter Tryz.func35, Tryz.ntmps35
 go_wp2_with fail
 go_loopw [5] (fun t wr => ∃ (i : Nat) (p : Int), t = .int .i64 p /\ p = (n : Int) - 1 - i /\ i <= n /\ s ∉ e.take i /\ w = wr) (fun t _ => (intOf t + 1).toNat)
 case atStart => exact ⟨0, (n : Int) - 1, rfl, by omega, Nat.zero_le _, by simp, rfl⟩
 case round =>
  obtain ⟨i, p, rfl, hp, hi, hns, rfl⟩ := hrel
  by_cases hlt : i < n
  ·have hp0 : (0 : Int) <= p := by omega
   have hp0' : p ≥ 0 := hp0
   have hpn : p < n := by omega
   obtain ⟨q, hq⟩ : ∃ q : Nat, p = q := ⟨p.toNat, by omega⟩
   subst hq
   obtain ⟨a, ha⟩ : ∃ a, e[i]? = some a := ⟨_, List.getElem?_eq_getElem (by have := HN.out; omega)⟩
   obtain ⟨b, rfl, c0⟩ := H.out.at ha
   rw [show n - 1 - i = q from by omega] at c0
   have hidx : (n : Int) - 1 - q = i := by omega
   have HNS := hid hns
   have HA := hid ha
   have HP := hid hp
   clear hns ha hp
   cases hx : (a.toList == s.toList)
   ·go_wp2_with fail
    go_roundw
    case rel => exact ⟨i + 1, (q : Int) - 1, rfl, by have := HP.out; omega, by omega, take_no HNS.out HA.out (fun e => by rw [str_eq.2 e] at hx; cases hx), trivial⟩
    case measure => simp [intOf] <;> omega
   ·have HR : Hid (ix e s = i) := ixE_hit (by rw [<- str_eq.1 hx]; exact HA.out) HNS.out
    go_wp2_with fail
    go_ret
    exact ⟨by first | (rw [HR.out]; done) | (rw [HR.out]; rfl), rfl⟩
  ·have hp0 : ¬ (0 : Int) <= p := by omega
   have hp0' : ¬ p ≥ 0 := hp0
   have HR : Hid (ix e s = -1) := ix_take hns (by have := HN.out; omega)
   clear hns hp
   go_wp2_with fail
   go_ret
   exact ⟨by first | (rw [HR.out]; done) | (rw [HR.out]; rfl), rfl⟩
end Sc
end
section
open Go.RowKit
theorem Fr.putObj (S : Nat -> Prop) (w : World) (r : Nat) (o : Obj) (h : S r) : Fr S w (w.putObj r o) :=
 ⟨rfl, rfl, rfl, by simp, fun k _ hk => World.putObj_heap_other (fun e => hk (by rw [e]; exact h))⟩
theorem room_wide_any (k : Nat) : Fence.wide.room k := fun d h => by cases h
theorem yield_any {m : Nat} (m' : Nat) {P : Program} {l : Nat} {args : Array Value} {W : World} {R : Ending -> World -> Prop} (h : YieldAt Fence.wide m P l args W R) : YieldAt Fence.wide m' P l args W R := by
 obtain ⟨fn, tmps, assign, body, hy, hR⟩ := h
 exact ⟨fn, tmps, assign, body, hy, hR.1, fun c cs _ => hR.2 c cs (room_wide_any _)⟩
def SeqC {α : Type} (n : Nat) (P : Program) (g : Nat) (lb : Array Value) (Enc : Nat -> α -> Array Value -> World -> Prop) (R : Nat -> Prop) (xs : List α) (w : World) : Prop :=
 ∀ (l : Nat) (J : Nat -> (Nat -> Prop) -> World -> Prop) (Jx : World -> Prop) (W : World) (D0 : Nat -> Prop), Fr (fun _ => False) w W ->
  (∀ i D A, J i D A -> ∀ k, D k -> k < A.heap.size /\ ¬ R k) ->
  (∀ i D A B, J i D A -> Fr (fun k => W.heap.size <= k /\ ¬ D k) A B -> J i D B) ->
  (∀ A B, Jx A -> Fr (fun _ => False) A B -> Jx B) ->
  (∀ i x va D W1, xs[i]? = some x -> Enc i x va W1 -> J i D W1 -> YieldAt Fence.wide n P l va W1 fun e W' =>
   (e = .returned (.bool true) /\ ∃ D', J (i + 1) D' W' /\ Fr D W1 W' /\ ∀ k, D' k -> D k ∨ W1.heap.size <= k) ∨ (e = .returned (.bool false) /\ Jx W')) ->
  J 0 D0 W ->
  CallsIn Fence.wide n P g (#[.func (.yield l) #[] #[]] ++ lb) W fun e W' => (∃ v, e = .returned v) /\ ((∃ D, J xs.length D W') ∨ Jx W')
def rfPost (I : Nat -> (Nat -> Prop) -> World -> Prop) (Ix : Code -> World -> Prop) (i : Nat) (D : Nat -> Prop) (W : World) : Exit -> Act -> World -> Prop
 | .normal, _, W' => ∃ D', I (i + 1) D' W' /\ Fr D W W' /\ ∀ k, D' k -> D k ∨ W.heap.size <= k
 | .ret, _, W' => Ix .ret W' /\ Fr D W W'
 | .exit id, _, W' => Ix (.exit id) W' /\ Fr D W W'
 | .goto t, _, W' => Ix (.goto t) W' /\ Fr D W W'
 | .panic _, _, _ => False
 | .outgrown, _, _ => False
theorem wpIn_range_c {α : Type} {n : Nat} {P : Program} {g : Operand} {ps : Array Tmp} {assign body : Code} {Q : Exit -> Act -> World -> Prop} {a : Act} {w : World}
    {gf : Nat} {lb : Array Value} (hg : a.eval g = .func (.func gf) #[] lb) (eg : ∀ args w, (callFunc gf args).run P w = .ok (.enter gf args) w)
    {Enc : Nat -> α -> Array Value -> World -> Prop} {R : Nat -> Prop} {xs : List α} {w0 : World} (hseq : SeqC (n - 1) P gf lb Enc R xs w0) (hR : ∀ k, R k -> k < w0.heap.size) (hb0 : Fr (fun _ => False) w0 w) (hps : ∀ i x va W, Enc i x va W -> va.size = ps.size)
    (I : Nat -> (Nat -> Prop) -> World -> Prop) (Im : Nat -> α -> Act -> (Nat -> Prop) -> World -> Prop) (Ix : Code -> World -> Prop) (D0 : Nat -> Prop)
    (hown : ∀ i D A, I i D A -> ∀ k, D k -> k < A.heap.size /\ ¬ R k /\ (k < w.heap.size ∨ w.heap.size + 2 <= k))
    (hI : ∀ i D A B, I i D A -> Fr (fun k => w.heap.size <= k /\ ¬ D k) A B -> I i D B)
    (hIm : ∀ i x a' D A B, Im i x a' D A -> Fr (fun k => k = w.heap.size + 1) A B -> Im i x a' D B)
    (hIx : ∀ c A B, Ix c A -> Fr (fun k => k = w.heap.size + 1) A B -> Ix c B)
    (h0 : I 0 D0 w)
    (hassign : ∀ (l i : Nat) (x : α) (va : Array Value) (D : Nat -> Prop) (W : World) (K : Act -> World -> Prop), xs[i]? = some x -> Enc i x va W -> I i D W -> w.heap.size + 2 <= W.heap.size -> (∀ a' W', Im i x a' D W' -> Fr (fun _ => False) W W' -> K a' W') ->
     assign.wpIn (Fence.wide.inRound l) (n - 1) P (Exit.then K (fun _ _ _ => False)) { tmps := (ps.zip va).foldl (fun t (p, v) => t.setIfInBounds p v) a.tmps, defers := [] } W)
    (hbody : ∀ (l i : Nat) (x : α) (a' : Act) (D : Nat -> Prop) (W : World), xs[i]? = some x -> Im i x a' D W -> w.heap.size + 2 <= W.heap.size -> body.wpIn (Fence.wide.inRound l) (n - 1) P (rfPost I Ix i D W) a' W)
    (hdone : ∀ (D : Nat -> Prop) (W : World), I xs.length D W -> W.heap[w.heap.size]? = some (.deferred (some [])) -> Q .normal { a with defers := { target := .collected w.heap.size, args := #[] } :: a.defers } W)
    (hstop : ∀ (c : Code) (W : World), Ix c W -> W.heap[w.heap.size]? = some (.deferred (some [])) -> c.wpIn Fence.wide n P Q { a with defers := { target := .collected w.heap.size, args := #[] } :: a.defers } W) :
    (Code.rangeFunc g ps assign body).wpIn Fence.wide n P Q a w := by
 refine wpIn_rangeFunc ?_
 intro fn hfn
 change ∃ l mark w₁ d w₁' f args w₂, (Instr.enterLoop fn a.tmps ps assign body none).run P w = _ /\ _
 obtain ⟨B, hB⟩ : ∃ B, B = w.heap.size := ⟨_, rfl⟩
 obtain ⟨rc, hrc⟩ : ∃ rc : LoopState -> Option Code -> Loop, rc = fun st pe => { state := st, pending := pe, fn, tmps := a.tmps, params := ps, assign, body, defers := w.heap.size } := ⟨_, rfl⟩
 obtain ⟨W1, hW1⟩ : ∃ W1, W1 = (w.alloc (.deferred (some []))).alloc (.loop (rc .ready none)) := ⟨_, rfl⟩
 have hf1 : Fr (fun _ => False) w W1 := by rw [hW1]; exact (Fr.alloc _ _ _).trans (Fr.alloc _ _ _)
 have hs1 : W1.heap.size = B + 2 := by rw [hW1, hB]; simp
 have hL1 : W1.heap[B + 1]? = some (.loop (rc .ready none)) := by
  have h := World.alloc_heap_new (w.alloc (.deferred (some []))) (.loop (rc .ready none))
  rw [World.size_alloc] at h
  rw [hW1, hB]; exact h
 have hK1 : W1.heap[B]? = some (.deferred (some [])) := by
  rw [hW1, hB]; exact ((Fr.alloc (fun _ => False) (w.alloc (.deferred (some []))) _).block w.heap.size (by simp) (fun h => h)).trans (World.alloc_heap_new w _)
 refine ⟨B + 1, [{ target := .collected B, args := #[] }], W1, { target := .fn (.func gf) lb, args := #[.func (.yield (B + 1)) #[] #[]] }, W1, gf, #[.func (.yield (B + 1)) #[] #[]] ++ lb, W1, ?_, ?_, fun _ _ => trivial, ?_, fun h => by simp [Fence.wide] at h, ?_⟩
 ·rw [hW1, hrc, hB]; exact run_enterLoop_outer _ _ _ _ _
 ·simp only [resolve, hg]
  simp [go_sem]
 ·simp [invoke, go_sem, eg]
 rw [<- hB] at hown hI hIm hIx hassign hbody hdone hstop
 refine (hseq (B + 1)
  (fun i D W => ∃ D1, I i D1 W /\ W.heap[B + 1]? = some (.loop (rc .ready none)) /\ W.heap[B]? = some (.deferred (some [])) /\ ∀ k, D k ↔ (D1 k ∨ k = B + 1))
  (fun W => ∃ c, Ix c W /\ W.heap[B + 1]? = some (.loop (rc .done (some c))) /\ W.heap[B]? = some (.deferred (some [])))
  W1 (fun k => D0 k ∨ k = B + 1) (hb0.trans hf1) ?own ?stay ?stayx ?round ?start).mono ?fin
 case own =>
  rintro i D A ⟨D1, hi, hl, hk, hd⟩ k hDk
  rcases (hd k).1 hDk with h | h
  ·exact ⟨(hown i D1 A hi k h).1, (hown i D1 A hi k h).2.1⟩
  ·subst h
   exact ⟨(Array.getElem?_eq_some_iff.1 hl).1, fun h => by have h1 := hR _ h; have h2 := hb0.size; rw [<- hB] at h2; omega⟩
 case stay =>
  rintro i D A C ⟨D1, hi, hl, hk, hd⟩ hf
  have hl' := (Array.getElem?_eq_some_iff.1 hl).1
  refine ⟨D1, hI i D1 A C hi (hf.mono (fun k _ h => ⟨by omega, fun h' => h.2 ((hd k).2 (.inl h'))⟩)), (hf.block _ hl' (by omega)).trans hl, (hf.block _ (by omega) (by omega)).trans hk, hd⟩
 case stayx =>
  rintro A C ⟨c, hc, hl, hk⟩ hf
  have hl' := (Array.getElem?_eq_some_iff.1 hl).1
  exact ⟨c, hIx c A C hc (hf.mono (fun k _ h => h.elim)), (hf.block _ hl' (fun h => h)).trans hl, (hf.block _ (by omega) (fun h => h)).trans hk⟩
 case start =>
  exact ⟨D0, hI 0 D0 w W1 h0 (hf1.mono (fun k _ h => h.elim)), hL1, hK1, fun k => Iff.rfl⟩
 case fin =>
  rintro e W2 ⟨⟨v, rfl⟩, (⟨D, D1, hi, hl, hk, hd⟩ | ⟨c, hc, hl, hk⟩)⟩
  ·refine ⟨none, _, by have h := run_endLoop (P := P) hl (by rw [hrc]; simp); rw [hrc] at h; exact h, hdone D1 _ (hI _ _ _ _ hi (Fr.putObj _ _ _ _ ⟨by omega, fun h => by have := hown _ _ _ hi _ h; omega⟩)) ((World.putObj_heap_other (by omega)).trans hk)⟩
  ·exact ⟨some c, _, by have h := run_endLoop (P := P) hl (by rw [hrc]; simp); rw [hrc] at h; exact h, hstop c _ (hIx c _ _ hc (Fr.putObj _ _ _ _ rfl)) ((World.putObj_heap_other (by omega)).trans hk)⟩
 case round =>
  rintro i x va D W hx henc ⟨D1, hi, hl, hk, hd⟩
  have hlt : B + 1 < W.heap.size := (Array.getElem?_eq_some_iff.1 hl).1
  have hy := run_yield (P := P) (args := va) hl (by rw [hrc]; exact hps i x va W henc)
  rw [hrc] at hy
  refine ⟨fn, _, assign, body, hy, roundIn_of_wpIn hfn (hassign _ i x va D1 W _ hx henc hi (by omega) ?_)⟩
  intro a' W' him hfa
  have hl1 := (hfa.block _ hlt (fun h => h)).trans hl
  have hlt1 : B + 1 < W'.heap.size := (Array.getElem?_eq_some_iff.1 hl1).1
  have hk1 := (hfa.block B (by omega) (fun h => h)).trans hk
  refine ⟨_, run_beginRound hl1 (by rw [hrc]), ?_⟩
  obtain ⟨W2, hW2⟩ : ∃ W2, W2 = W'.putObj (B + 1) (.loop { rc .ready none with state := .busy }) := ⟨_, rfl⟩
  rw [<- hW2]
  have hl2 : W2.heap[B + 1]? = some (.loop { rc .ready none with state := .busy }) := by rw [hW2]; exact World.putObj_heap_same hlt1
  have hk2 : W2.heap[B]? = some (.deferred (some [])) := by rw [hW2]; exact (World.putObj_heap_other (by omega)).trans hk1
  have hfp : Fr (fun k => k = B + 1) W' W2 := by rw [hW2]; exact Fr.putObj _ _ _ _ rfl
  have hnd : ∀ k, k = B ∨ k = B + 1 -> ¬ D1 k := fun k hk h => by have := hown _ _ _ hi _ h; omega
  have fin : ∀ (jump : Option Code) (W3 : World), Fr D1 W2 W3 ->
      (Instr.endRound (B + 1) jump).run P W3 = .ok (.bool jump.isNone) (W3.putObj (B + 1) (.loop (rc (if jump.isNone then .ready else .done) jump))) /\
      (W3.putObj (B + 1) (.loop (rc (if jump.isNone then .ready else .done) jump))).heap[B + 1]? = some (.loop (rc (if jump.isNone then .ready else .done) jump)) /\
      (W3.putObj (B + 1) (.loop (rc (if jump.isNone then .ready else .done) jump))).heap[B]? = some (.deferred (some [])) := fun jump W3 h3 => by
   have hl3 := (h3.block _ (Array.getElem?_eq_some_iff.1 hl2).1 (hnd _ (.inr rfl))).trans hl2
   have hk3 := (h3.block B (Array.getElem?_eq_some_iff.1 hk2).1 (hnd _ (.inl rfl))).trans hk2
   have h := run_endRound (P := P) jump hl3
   rw [hrc] at h ⊢
   exact ⟨h, World.putObj_heap_same (Array.getElem?_eq_some_iff.1 hl3).1, (World.putObj_heap_other (by omega)).trans hk3⟩
  refine wpIn_mono (hbody _ i x a' D1 W2 hx (hIm _ _ _ _ _ _ him hfp) (by have := (Array.getElem?_eq_some_iff.1 hl2).1; omega)) ?_
  rintro e a3 W3 hp
  cases e with
  | normal =>
   obtain ⟨D2, hi3, h3, hd3⟩ := hp
   obtain ⟨hr, hl4, hk4⟩ := fin none W3 h3
   refine ⟨_, _, hr, .inl ⟨rfl, fun k => D2 k ∨ k = B + 1, ⟨D2, hI _ _ _ _ hi3 (Fr.putObj _ _ _ _ ⟨by omega, fun h => by have := hown _ _ _ hi3 _ h; omega⟩), hl4, hk4, fun k => Iff.rfl⟩, ?_, ?_⟩⟩
   ·refine (hfa.mono (fun k _ h => h.elim)).trans ((hfp.mono (fun k _ h => (hd k).2 (.inr h))).trans ((h3.mono (fun k _ h => (hd k).2 (.inl h))).trans (Fr.putObj _ _ _ _ ((hd _).2 (.inr rfl)))))
   ·intro k h
    rcases h with h | h
    ·rcases hd3 k h with h | h
     ·exact .inl ((hd k).2 (.inl h))
     ·exact .inr (Nat.le_trans (Nat.le_trans hfa.size hfp.size) h)
    ·exact .inl ((hd k).2 (.inr h))
  | ret =>
   obtain ⟨hc, h3⟩ := hp
   obtain ⟨hr, hl4, hk4⟩ := fin (some .ret) W3 h3
   exact ⟨_, _, hr, .inr ⟨rfl, .ret, hIx _ _ _ hc (Fr.putObj _ _ _ _ rfl), hl4, hk4⟩⟩
  | exit id =>
   obtain ⟨hc, h3⟩ := hp
   obtain ⟨hr, hl4, hk4⟩ := fin (some (.exit id)) W3 h3
   exact ⟨_, _, hr, .inr ⟨rfl, .exit id, hIx _ _ _ hc (Fr.putObj _ _ _ _ rfl), hl4, hk4⟩⟩
  | goto t =>
   obtain ⟨hc, h3⟩ := hp
   obtain ⟨hr, hl4, hk4⟩ := fin (some (.goto t)) W3 h3
   exact ⟨_, _, hr, .inr ⟨rfl, .goto t, hIx _ _ _ hc (Fr.putObj _ _ _ _ rfl), hl4, hk4⟩⟩
  | panic ch => exact hp.elim
  | outgrown => exact hp.elim
end
end Go.Proofs.YtcninopmelmajaaGreatDoor
