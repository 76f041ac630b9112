/-
  Equations that are picked, and their slices: eqs.Pick, slice.Of, and the document's Of. Conditions: the rows lie in memory as told; they are short.
-/
import Derived.Test.YtdlcakmjihfgfaaDoorSt1
import Derived.Test.YtdlcakmjihfgfaaDoorSuGreat
import Derived.Test.YtdlcakmjihfgfaaDoorTyArrow
import Derived.Test.YtdlcakmjihfgfaaDoorSpRMerge
import Derived.Test.YtdlcakmjihfgfaaDoorBlk
import Derived.Deep.RegionHeld3
import Derived.Deep.DeepCutAuto
namespace Go.Proofs.YtdlcakmjihfgfaaDoor
open Go.RowKit SpanPlain

abbrev ecells (k1 n1 : Int) (o1 : Option Addr) (l1 c1 : Nat) (k2 n2 : Int) (o2 : Option Addr) (l2 c2 : Nat) (x y : Int) : Array Value :=
  #[.int .i64 k1, .int .i64 n1, .slice o1 l1 c1, .int .i64 k2, .int .i64 n2, .slice o2 l2 c2, .int .i64 x, .int .i64 y]
/-- cells that are equations, charged with such spans -/
def RowE : List Value → List Sp → Prop
  | xs, [] => xs = []
  | xs, t :: r => ∃ k1 n1 o1 l1 c1 k2 n2 o2 l2 c2 ys, xs = (ecells k1 n1 o1 l1 c1 k2 n2 o2 l2 c2 t.1 t.2).toList ++ ys ∧ RowE ys r
theorem RowE.snoc {k1 n1 : Int} {o1 : Option Addr} {l1 c1 : Nat} {k2 n2 : Int} {o2 : Option Addr} {l2 c2 : Nat} {t : Sp} : ∀ (l : List Sp) (xs : List Value), RowE xs l → RowE (xs ++ (ecells k1 n1 o1 l1 c1 k2 n2 o2 l2 c2 t.1 t.2).toList) (l ++ [t])
  | [], xs, h => by
    cases h
    exact ⟨k1, n1, o1, l1, c1, k2, n2, o2, l2, c2, [], by simp, rfl⟩
  | u :: r, xs, h => by
    obtain ⟨k1', n1', o1', l1', c1', k2', n2', o2', l2', c2', ys, rfl, hr⟩ := h
    exact ⟨k1', n1', o1', l1', c1', k2', n2', o2', l2', c2', _, by rw [List.append_assoc], RowE.snoc r ys hr⟩
theorem RowE.get : ∀ (l : List Sp) (xs : List Value) (i : Nat) (t : Sp), RowE xs l → l[i]? = some t → ∃ k1 n1 o1 l1 c1 k2 n2 o2 l2 c2, ∀ j, j < 8 → xs[i * 8 + j]? = (ecells k1 n1 o1 l1 c1 k2 n2 o2 l2 c2 t.1 t.2)[j]?
  | [], xs, i, t, _, h => by simp at h
  | u :: r, xs, 0, t, h, hi => by
    obtain ⟨k1, n1, o1, l1, c1, k2, n2, o2, l2, c2, ys, rfl, hr⟩ := h
    simp at hi; subst hi
    refine ⟨k1, n1, o1, l1, c1, k2, n2, o2, l2, c2, fun j hj => ?_⟩
    rw [Nat.zero_mul, Nat.zero_add, List.getElem?_append_left (by simpa using hj)]
    simp
  | u :: r, xs, i + 1, t, h, hi => by
    obtain ⟨k1, n1, o1, l1, c1, k2, n2, o2, l2, c2, ys, rfl, hr⟩ := h
    obtain ⟨k1', n1', o1', l1', c1', k2', n2', o2', l2', c2', hj⟩ := RowE.get r ys i t hr (by simpa using hi)
    refine ⟨k1', n1', o1', l1', c1', k2', n2', o2', l2', c2', fun j hj' => ?_⟩
    rw [List.getElem?_append_right (by simp; omega), ← hj j hj']
    congr 1
    simp; omega
/-- equations of the call's own -/
structure EqRow (w : World) (B : Nat) (v : Value) (l : List Sp) (xs : List Value) : Prop where
  own : w.ownsRow 0 65 8 v l.length xs
  low : ∀ k, v.ownBlock = some k → B ≤ k
  cells : RowE xs l
theorem EqRow.nil (w : World) (B : Nat) : EqRow w B (.slice none 0 0) [] [] := ⟨World.ownsRow_nil _ _ _ _, fun k hk => (by cases hk), rfl⟩
theorem EqRow.stay {w w' : World} {B : Nat} {v : Value} {l : List Sp} {xs : List Value} (h : EqRow w B v l xs) (hf : Quiet0 w w') : EqRow w' B v l xs := ⟨ownsRow_fr h.own hf (fun _ _ h => h), h.low, h.cells⟩
theorem EqRow.lt {w : World} {B : Nat} {v : Value} {l : List Sp} {xs : List Value} (h : EqRow w B v l xs) : ∀ k, v.ownBlock = some k → k < w.heap.size := fun k hk => (h.own.lt k hk).2
theorem EqRow.form {w : World} {B : Nat} {v : Value} {l : List Sp} {xs : List Value} (h : EqRow w B v l xs) : ∃ o c, v = .slice o l.length c ∧ l.length ≤ maxLen := by
  rcases h.own.2 with ⟨h1, h2⟩ | ⟨g, cap, cur, rfl, _, _, h4, h5, _⟩
  · exact ⟨none, 0, by rw [h1, h2], by omega⟩
  · exact ⟨_, cap, rfl, Nat.le_trans h4 h5⟩
theorem EqRow.snoc {W w1 : World} {B : Nat} {v : Value} {l : List Sp} {xs : List Value} {k1 n1 : Int} {o1 : Option Addr} {l1 c1 : Nat} {k2 n2 : Int} {o2 : Option Addr} {l2 c2 : Nat} {t : Sp} {g c : Nat} (hr : EqRow W B v l xs)
    (ho : w1.ownsRow 0 65 8 (.slice (some ⟨g, 0, none⟩) (l.length + 1) c) (l.length + 1) (xs ++ (ecells k1 n1 o1 l1 c1 k2 n2 o2 l2 c2 t.1 t.2).toList)) (hg : v.ownBlock = some g ∨ W.heap.size ≤ g) (hB : B ≤ W.heap.size) :
    EqRow w1 B (.slice (some ⟨g, 0, none⟩) (l.length + 1) c) (l ++ [t]) (xs ++ (ecells k1 n1 o1 l1 c1 k2 n2 o2 l2 c2 t.1 t.2).toList) := by
  refine ⟨by rw [List.length_append]; exact ho, ?_, RowE.snoc l xs hr.cells⟩
  intro k hk
  simp [Value.ownBlock] at hk
  subst hk
  rcases hg with h | h
  · exact hr.low g h
  · omega
theorem EqRow.at {w : World} {B : Nat} {o : Option Addr} {n c : Nat} {l : List Sp} {xs : List Value} (h : EqRow w B (.slice o n c) l xs) {i : Nat} {t : Sp} (hi : l[i]? = some t) : ∃ g k1 n1 o1 l1 c1 k2 n2 o2 l2 c2, o = some ⟨g, 0, none⟩ ∧
    w.cell? ⟨g, i * 8, none⟩ = some (.int .i64 k1) ∧ w.cell? ⟨g, i * 8 + 1, none⟩ = some (.int .i64 n1) ∧ w.cell? ⟨g, i * 8 + 2, none⟩ = some (.slice o1 l1 c1) ∧ w.cell? ⟨g, i * 8 + 3, none⟩ = some (.int .i64 k2) ∧ w.cell? ⟨g, i * 8 + 4, none⟩ = some (.int .i64 n2) ∧
    w.cell? ⟨g, i * 8 + 5, none⟩ = some (.slice o2 l2 c2) ∧ w.cell? ⟨g, i * 8 + 6, none⟩ = some (.int .i64 t.1) ∧ w.cell? ⟨g, i * 8 + 7, none⟩ = some (.int .i64 t.2) := by
  rcases h.own.2 with ⟨_, h0⟩ | ⟨g, cap', cur, he, _⟩
  · rw [List.length_eq_zero_iff.1 h0] at hi; simp at hi
  · injection he with h1 h2 h3
    subst h1
    obtain ⟨k1, n1, o1, l1, c1, k2, n2, o2, l2, c2, hj⟩ := RowE.get l xs i t h.cells hi
    have hc : ∀ j, j < 8 → w.cell? ⟨g, i * 8 + j, none⟩ = (ecells k1 n1 o1 l1 c1 k2 n2 o2 l2 c2 t.1 t.2)[j]? := by
      intro j h8
      have e := hj j h8
      rw [Array.getElem?_eq_getElem (by simpa using h8)] at e ⊢
      have := h.own.cells (g := g) rfl (i * 8 + j) _ e
      simpa [Addr.add_lit] using this
    exact ⟨g, k1, n1, o1, l1, c1, k2, n2, o2, l2, c2, rfl, hc 0 (by omega), hc 1 (by omega), hc 2 (by omega), hc 3 (by omega), hc 4 (by omega), hc 5 (by omega), hc 6 (by omega), hc 7 (by omega)⟩
theorem elemEq : Elem Tryd.prog 34 65 (.agg #[.int .i64 0, .int .i64 0, .slice none 0 0, .int .i64 0, .int .i64 0, .slice none 0 0, .int .i64 0, .int .i64 0]) 8 96 :=
  ⟨Tryd.underlying34, by kernel_rfl, by decide, by decide⟩
/-- the equations of some numbers -/
def pick1 (l : List Eqn) (n : Int) : Option Eqn := if 0 ≤ n ∧ n < l.length then l[n.toNat]? else none
def picks (l : List Eqn) (ns : List Int) : List Sp := (ns.filterMap (pick1 l)).map (fun t => t.2.2)
theorem picks_length (l : List Eqn) (ns : List Int) : (picks l ns).length ≤ ns.length := by
  unfold picks; rw [List.length_map]; exact List.length_filterMap_le _ _
theorem picks_none {l : List Eqn} {ns : List Int} {i : Nat} {n : Int} (h : ns[i]? = some n) (hn : pick1 l n = none) : picks l (ns.take (i + 1)) = picks l (ns.take i) := by
  unfold picks
  rw [List.take_add_one, h, List.filterMap_append]
  simp [hn]
theorem picks_some {l : List Eqn} {ns : List Int} {i : Nat} {n : Int} {t : Eqn} (h : ns[i]? = some n) (hn : pick1 l n = some t) : picks l (ns.take (i + 1)) = picks l (ns.take i) ++ [t.2.2] := by
  unfold picks
  rw [List.take_add_one, h, List.filterMap_append]
  simp [hn]
def PickQ (w : World) (l : List Sp) (e : Ending) (w' : World) : Prop := ∃ v xs, e = .returned v ∧ EqRow w' w.heap.size v l xs ∧ Quiet0 w w'
set_option maxRecDepth 100000 in
set_option maxHeartbeats 4000000 in
theorem pick_any (l : List Eqn) (o : Option Addr) (cap : Nat) (ns : List Int) (o2 : Option Addr) (cap2 : Nat) (w : World) (hs : EqsAt w o l) (hi : IntsAt w o2 ns) (hf : FewEq l) (hz : ns.length ≤ 1000) :
    Calls Tryd.prog 34 #[.slice o l.length cap, .slice o2 ns.length cap2] w (PickQ w (picks l ns)) := by
  have HS := Lib.hid hs
  have HI := Lib.hid hi
  have HF := Lib.hid hf
  have hlz := hf.1
  clear hs hi hf
  go_enter Tryd.func34, Tryd.ntmps34
  go_wp2_with fail
  go_loopw [5, 10] (fun v t wr => ∃ (i : Nat) (xs : List Value), t = .int .i64 i ∧ i ≤ ns.length ∧ EqRow wr w.heap.size v (picks l (ns.take i)) xs ∧ Quiet0 w wr) (fun _ t _ => ns.length - (intOf t).toNat)
  case atStart => exact ⟨0, [], rfl, Nat.zero_le _, EqRow.nil _ _, Quiet0.refl _⟩
  case round =>
    obtain ⟨i, xs, rfl, hi, hrow, hq⟩ := hrel
    have HQ := Lib.hid hq
    have HROW := Lib.hid hrow
    have hpl := picks_length l (ns.take i)
    rw [List.length_take] at hpl
    by_cases hlt : i < ns.length
    · have hlt' : (i : Int) < ns.length := by omega
      obtain ⟨n, hn⟩ : ∃ n, ns[i]? = some n := ⟨_, List.getElem?_eq_getElem hlt⟩
      obtain ⟨bi, oi, rfl, hci⟩ := HI.out.stay HQ.out i n hn
      by_cases h0 : 0 ≤ n
      · by_cases h1 : n < l.length
        · obtain ⟨m, rfl⟩ := Int.eq_ofNat_of_zero_le h0
          have hml : m < l.length := by omega
          obtain ⟨t, ht⟩ : ∃ t, l[m]? = some t := ⟨_, List.getElem?_eq_getElem hml⟩
          have hp : pick1 l (m : Int) = some t := by unfold pick1; rw [if_pos ⟨h0, h1⟩]; simpa using ht
          have HN := Lib.hid (picks_some hn hp)
          have htm := HF.out.2 t (List.mem_of_getElem? ht)
          obtain ⟨b, off, o1, l1, c1, o2', l2, c2, rfl, a0, a1, a2, a3, a4, a5, a6, a7, s1, s2⟩ := HS.out.stay HQ.out m t ht
          obtain ⟨⟨k1, n1, p1⟩, ⟨k2, n2, p2⟩, x, y⟩ := t
          simp only at a0 a1 a2 a3 a4 a5 a6 a7 s1 s2 htm HN
          have HC1 := Lib.hid (fun (W : World) (h : Quiet0 wr W) => copy_any k1 n1 p1 W o1 l1 c1 (s1.stay h) (by omega))
          have HC2 := Lib.hid (fun (W : World) (h : Quiet0 wr W) => copy_any k2 n2 p2 W o2' l2 c2 (s2.stay h) (by omega))
          unfold tyv at HC1 HC2
          generalize hou : picks l (ns.take i) = ou at *
          have HOU := Lib.hid hou
          obtain ⟨vo, vc, rfl, hmx⟩ := hrow.form
          have hbw : b < w.heap.size := by
            obtain ⟨b', off', _, _, _, _, _, _, e, e0, _⟩ := HS.out m _ ht
            cases e
            exact World.block_lt_of_cell? w _ e0
          have HBC : Hid (∀ w', Fr (fun j => (Value.slice vo ou.length vc).ownBlock = some j) wr w' → w'.cell? ⟨b, off + m * 8, none⟩ = some (.int .i64 k1) ∧ w'.cell? ⟨b, off + m * 8 + 1, none⟩ = some (.int .i64 n1) ∧ w'.cell? ⟨b, off + m * 8 + 2, none⟩ = some (.slice o1 l1 c1) ∧ w'.cell? ⟨b, off + m * 8 + 3, none⟩ = some (.int .i64 k2) ∧ w'.cell? ⟨b, off + m * 8 + 4, none⟩ = some (.int .i64 n2) ∧ w'.cell? ⟨b, off + m * 8 + 5, none⟩ = some (.slice o2' l2 c2) ∧ w'.cell? ⟨b, off + m * 8 + 6, none⟩ = some (.int .i64 x) ∧ w'.cell? ⟨b, off + m * 8 + 7, none⟩ = some (.int .i64 y)) := by
            intro w' h
            have hb : b < wr.heap.size := World.block_lt_of_cell? wr _ a0
            have hns : ¬ (Value.slice vo ou.length vc).ownBlock = some b := fun e => by have := HROW.out.low b e; omega
            exact ⟨(h.cellb hb hns).trans a0, (h.cellb hb hns).trans a1, (h.cellb hb hns).trans a2, (h.cellb hb hns).trans a3, (h.cellb hb hns).trans a4, (h.cellb hb hns).trans a5, (h.cellb hb hns).trans a6, (h.cellb hb hns).trans a7⟩
          have hol : ou.length ≤ 1000 := by omega
          clear hn ht hp hq hrow hou s1 s2 htm hpl
          go_upto_region 6 with fail
          have hqc := Quiet0.refl wr
          go_region_held3 (fun w' => w'.cell? ⟨b, off + m * 8, none⟩ = some (.int .i64 k1) ∧ w'.cell? ⟨b, off + m * 8 + 1, none⟩ = some (.int .i64 n1) ∧ w'.cell? ⟨b, off + m * 8 + 2, none⟩ = some (.slice o1 l1 c1) ∧ w'.cell? ⟨b, off + m * 8 + 3, none⟩ = some (.int .i64 k2) ∧ w'.cell? ⟨b, off + m * 8 + 4, none⟩ = some (.int .i64 n2) ∧ w'.cell? ⟨b, off + m * 8 + 5, none⟩ = some (.slice o2' l2 c2) ∧ w'.cell? ⟨b, off + m * 8 + 6, none⟩ = some (.int .i64 x) ∧ w'.cell? ⟨b, off + m * 8 + 7, none⟩ = some (.int .i64 y))
            (((refine HBC.out _ ?_); (repeat (first | with_reducible exact HFR | with_reducible exact Quiet0.fr hqc | with_reducible exact Fr.refl _ _ | with_reducible refine Fr.trans ?_ (Fr.alloc _ _ _) | with_reducible refine Fr.trans ?_ (Fr.drew _ _) | ((with_reducible refine Fr.trans ?_ (Fr.setCell _ _ _ _ ?hsd)); (case hsd => (simp <;> omega))) | fail))))
            (first
              | (go_at_call 49; (with_reducible refine Calls.mono (HC1.out _ ?hq) ?_); (case hq => (repeat (first | with_reducible exact hqc | with_reducible exact Quiet0.refl _ | with_reducible refine Quiet0.trans ?_ (Quiet0.alloc _ _) | with_reducible refine Quiet0.trans ?_ (Quiet0.drew _) | fail))); rintro e wx ⟨oc1, cc1, rfl, hsa1, hqx⟩; (refine with_q (w0 := wr) ?hq2 hqx ?_); (case hq2 => (repeat (first | with_reducible exact hqc | with_reducible exact Quiet0.refl _ | with_reducible refine Quiet0.trans ?_ (Quiet0.alloc _ _) | with_reducible refine Quiet0.trans ?_ (Quiet0.drew _) | fail))); intro hqc)
              | (go_at_call 49; (with_reducible refine Calls.mono (HC2.out _ ?hq) ?_); (case hq => (repeat (first | with_reducible exact hqc | with_reducible exact Quiet0.refl _ | with_reducible refine Quiet0.trans ?_ (Quiet0.alloc _ _) | with_reducible refine Quiet0.trans ?_ (Quiet0.drew _) | fail))); rintro e wx ⟨oc2, cc2, rfl, hsa2, hqx⟩; (refine with_q (w0 := wr) ?hq2 hqx ?_); (case hq2 => (repeat (first | with_reducible exact hqc | with_reducible exact Quiet0.refl _ | with_reducible refine Quiet0.trans ?_ (Quiet0.alloc _ _) | with_reducible refine Quiet0.trans ?_ (Quiet0.drew _) | fail))); intro hqc)
              | (refine St.step_append_one wx (by rfl) (.tmp 22) (.tmp 41) 34 (by rfl) 65 _ 8 96 elemEq (.slice vo ou.length vc) ou.length xs (by rfl) (HROW.out.stay hqc).own (ecells k1 n1 oc1 l1 cc1 k2 n2 oc2 l2 cc2 x y) (by rfl) (by rfl) (by simp [Value.oneCell']) (by unfold maxLen; omega) (by omega) ?_; intro g2 c' w5 ho hf hg2; have HFR := Fr.trans (Quiet0.fr (S := fun j => (Value.slice vo ou.length vc).ownBlock = some j) hqc) hf)
              | fail)
          all_goals
            have HRX := Lib.hid (HROW.out.stay hqc)
            have hsz : w.heap.size ≤ wx.heap.size := (HQ.out.trans hqc).size
            have HR2 : Hid (EqRow w5 w.heap.size (.slice (some ⟨g2, 0, none⟩) (ou.length + 1) c') (ou ++ [(x, y)]) (xs ++ (ecells k1 n1 oc1 l1 cc1 k2 n2 oc2 l2 cc2 x y).toList)) := by
              show EqRow _ _ _ _ _
              exact EqRow.snoc (t := (x, y)) HRX.out ho hg2 hsz
            have HQ5 : Hid (Quiet0 w w5) := Fr.trans' (HQ.out.trans hqc) hf (fun j hj h => absurd (HROW.out.low j h) (by omega))
            clear ho hf hg2 HFR hsz hqc
            go_wp2_with fail
            go_roundw
            case rel => exact ⟨i + 1, _, by go_num, by omega, by rw [HN.out]; exact HR2.out, HQ5.out⟩
            case measure => simp [intOf]; omega
        · have hp : pick1 l n = none := by unfold pick1; rw [if_neg (by omega)]
          have HN := Lib.hid (picks_none hn hp)
          obtain ⟨vo, vc, rfl, hmx⟩ := hrow.form
          clear hn hp hq hrow
          go_wp2_with fail
          go_roundw
          case rel => exact ⟨i + 1, xs, by go_num, by omega, by rw [HN.out]; exact HROW.out, HQ.out⟩
          case measure => simp [intOf]; omega
      · have hp : pick1 l n = none := by unfold pick1; rw [if_neg (by omega)]
        have HN := Lib.hid (picks_none hn hp)
        obtain ⟨vo, vc, rfl, hmx⟩ := hrow.form
        clear hn hp hq hrow
        go_wp2_with fail
        go_roundw
        case rel => exact ⟨i + 1, xs, by go_num, by omega, by rw [HN.out]; exact HROW.out, HQ.out⟩
        case measure => simp [intOf]; omega
    · have hlt' : ¬ (i : Int) < ns.length := by omega
      have htk : ns.take i = ns := List.take_of_length_le (by omega)
      rw [htk] at HROW hrow
      obtain ⟨vo, vc, rfl, hmx⟩ := hrow.form
      clear hq hrow
      go_wp2_with fail
      go_ret
      exact ⟨_, _, rfl, HROW.out, HQ.out⟩
set_option maxRecDepth 100000 in
set_option maxHeartbeats 4000000 in
theorem ofS_any (l : List Eqn) (o : Option Addr) (cap : Nat) (ns : List Int) (o2 : Option Addr) (cap2 : Nat) (w : World) (hs : EqsAt w o l) (hi : IntsAt w o2 ns) (hf : FewEq l) (hz : ns.length ≤ 1000) :
    Calls Tryd.prog 18 #[.slice o l.length cap, .slice o2 ns.length cap2] w (SpPost w (rmerge (picks l ns))) := by
  have HP := Lib.hid (pick_any l o cap ns o2 cap2 w hs hi hf hz)
  have hpl := picks_length l ns
  obtain ⟨c, hc⟩ : ∃ c, picks l ns = c := ⟨_, rfl⟩
  rw [hc] at HP hpl
  rw [hc]
  have hcl : c.length ≤ 1000 := by omega
  clear hs hi hf hc hpl
  go_enter Tryd.func18, Tryd.ntmps18
  go_wp2_with fail
  refine HP.out.mono ?_; rintro e w1 ⟨v1, xs, rfl, hr1, hq1⟩
  obtain ⟨o1, c1, rfl, hmx1⟩ := hr1.form
  have HR1 := Lib.hid hr1
  have HQ1 := Lib.hid hq1
  clear hr1 hq1 HP
  go_wp2_with fail
  go_loopw [5, 12] (fun v t wr => ∃ (i : Nat), t = .int .i64 i ∧ i ≤ c.length ∧ SpRow wr w1.heap.size v (c.take i) ∧ Quiet0 w1 wr) (fun _ t _ => c.length - (intOf t).toNat)
  case atStart => exact ⟨0, rfl, Nat.zero_le _, SpRow.nil _ _, Quiet0.refl _⟩
  case round =>
    obtain ⟨i, rfl, hi, hrow, hq⟩ := hrel
    have HQ := Lib.hid hq
    have hln : (c.take i).length = i := by rw [List.length_take]; omega
    by_cases hlt : i < c.length
    · have hlt' : (i : Int) < c.length := by omega
      obtain ⟨t, ht⟩ : ∃ t, c[i]? = some t := ⟨_, List.getElem?_eq_getElem hlt⟩
      have HN : Hid (c.take (i + 1) = c.take i ++ [t]) := by show _ = _; rw [List.take_add_one, ht]; rfl
      obtain ⟨g, k1, n1, p1, l1, d1, k2, n2, p2, l2, d2, rfl, a0, a1, a2, a3, a4, a5, a6, a7⟩ := (HR1.out.stay hq).at ht
      obtain ⟨x, y⟩ := t
      simp only at a6 a7
      obtain ⟨W0, hW0⟩ : ∃ W0, W0 = wr.alloc (.cells (ecells k1 n1 p1 l1 d1 k2 n2 p2 l2 d2 x y) 65) := ⟨_, rfl⟩
      have HQ0 : Hid (Quiet0 wr W0) := by rw [hW0]; exact Quiet0.alloc _ _
      have HB0 : Hid (W0.heap[wr.heap.size]? = some (.cells (ecells k1 n1 p1 l1 d1 k2 n2 p2 l2 d2 x y) 65 (0, 0))) := by rw [hW0]; exact heap_alloc_new wr _
      have b6 : W0.cell? ⟨wr.heap.size, 6, none⟩ = some (.int .i64 x) := by rw [cell_of_row _ _ _ _ _ (0, 0) HB0.out]; rfl
      have b7 : W0.cell? ⟨wr.heap.size, 7, none⟩ = some (.int .i64 y) := by rw [cell_of_row _ _ _ _ _ (0, 0) HB0.out]; rfl
      generalize hou : c.take i = ou at *
      obtain ⟨vo, vc, rfl, hmx⟩ := hrow.form
      have HROW := Lib.hid hrow
      subst hln
      clear ht hq hrow hou
      go_upto_region 5 with fail
      change Code.wp _ _ _ _ (wr.alloc (.cells (ecells k1 n1 p1 l1 d1 k2 n2 p2 l2 d2 x y) 65))
      rw [← hW0]
      clear hW0 a0 a1 a2 a3 a4 a5 a6 a7
      generalize wr.heap.size = kb at *
      have hq2 := HQ0.out
      go_wp2_with (at_builtin; refine wpList_append_one W0 rfl (.tmp 16) (.tmp 19) 22 rfl 41 _ 2 16 elemSp (.slice vo ou.length vc) ou.length (flat ou) rfl (HROW.out.stay HQ0.out).own #[.int .i64 x, .int .i64 y] rfl rfl (by simp [Value.oneCell']) (by unfold maxLen; omega) (by omega) ?_; intro g c' w4 ho hf hg)
      have HR2 : Hid (SpRow w4 w1.heap.size (.slice (some ⟨g, 0, none⟩) (ou.length + 1) c') (ou ++ [(x, y)])) := by
        show SpRow _ _ _ _
        exact SpRow.snoc (x := x) (y := y) (HROW.out.stay hq2) ho hg (HQ.out.trans hq2).size
      have HQ2 : Hid (Quiet0 w1 w4) := Lib.hid (Fr.trans' (HQ.out.trans hq2) hf (fun kk hkk h => by have := HROW.out.low kk h; omega))
      clear ho hf hg hq2
      go_wp2_with fail
      go_roundw
      case rel => exact ⟨ou.length + 1, by go_num, by omega, by rw [HN.out]; exact HR2.out, HQ2.out⟩
      case measure => simp [intOf]; omega
    · have hlt' : ¬ (i : Int) < c.length := by omega
      have htk : c.take i = c := List.take_of_length_le (by omega)
      rw [htk] at hrow
      obtain ⟨vo, vc, rfl, hmx⟩ := hrow.form
      have HM := Lib.hid (merge_any c vo vc wr _ hrow.slc (by omega))
      clear hq hrow htk hln
      go_wp2_with fail
      refine HM.out.mono ?_; rintro e w5 ⟨v5, rfl, hr5, hq5⟩
      have HR5 := Lib.hid hr5
      have HQ5 := Lib.hid (HQ1.out.trans (HQ.out.trans hq5))
      have hz5 : w.heap.size ≤ wr.heap.size := (HQ1.out.trans HQ.out).size
      clear hr5 hq5
      go_wp2_with fail
      go_ret
      exact ⟨_, rfl, ⟨HR5.out.own, fun k hk => Nat.le_trans hz5 (HR5.out.low k hk)⟩, HQ5.out⟩
set_option maxRecDepth 100000 in
set_option maxHeartbeats 4000000 in
theorem refOfS_any (l : List Eqn) (o : Option Addr) (cap : Nat) (ns : List Int) (o2 : Option Addr) (cap2 : Nat) (w : World) (hs : EqsAt w o l) (hi : IntsAt w o2 ns) (_ : l.length ≤ 1000) (hz : ns.length ≤ 1000) :
    Calls Tryd.prog 19 #[.slice o l.length cap, .slice o2 ns.length cap2] w (SpPost w (rmerge (picks l ns))) := by
  have HS := Lib.hid hs
  have HI := Lib.hid hi
  clear hs hi
  go_enter Tryd.func19, Tryd.ntmps19
  go_wp2_with fail
  go_loopw [5, 6] (fun v t wr => ∃ (i : Nat), t = .int .i64 i ∧ i ≤ ns.length ∧ SpRow wr w.heap.size v (picks l (ns.take i)) ∧ Quiet0 w wr) (fun _ t _ => ns.length - (intOf t).toNat)
  case atStart => exact ⟨0, rfl, Nat.zero_le _, SpRow.nil _ _, Quiet0.refl _⟩
  case round =>
    obtain ⟨i, rfl, hi, hrow, hq⟩ := hrel
    have HQ := Lib.hid hq
    have hpl := picks_length l (ns.take i)
    rw [List.length_take] at hpl
    by_cases hlt : i < ns.length
    · have hlt' : (i : Int) < ns.length := by omega
      obtain ⟨n, hn⟩ : ∃ n, ns[i]? = some n := ⟨_, List.getElem?_eq_getElem hlt⟩
      obtain ⟨bi, oi, rfl, hci⟩ := HI.out.stay HQ.out i n hn
      obtain ⟨vo, vc, rfl, hmx⟩ := hrow.form
      have HROW := Lib.hid hrow
      by_cases h0 : 0 ≤ n
      · by_cases h1 : n < l.length
        · obtain ⟨m, rfl⟩ := Int.eq_ofNat_of_zero_le h0
          have hml : m < l.length := by omega
          obtain ⟨t, ht⟩ : ∃ t, l[m]? = some t := ⟨_, List.getElem?_eq_getElem hml⟩
          have hp : pick1 l (m : Int) = some t := by unfold pick1; rw [if_pos ⟨h0, h1⟩]; simpa using ht
          have HN := Lib.hid (picks_some hn hp)
          obtain ⟨b, off, o1, l1, c1, o2', l2, c2, rfl, a0, a1, a2, a3, a4, a5, a6, a7, s1, s2⟩ := HS.out.stay HQ.out m t ht
          obtain ⟨⟨k1, n1, p1⟩, ⟨k2, n2, p2⟩, x, y⟩ := t
          simp only at a6 a7 HN
          generalize hou : picks l (ns.take i) = ou at *
          have hol : ou.length ≤ 1000 := by omega
          clear hn ht hp hq hrow hou s1 s2 hpl a0 a1 a2 a3 a4 a5
          go_wp2_with (at_builtin; refine wpList_append_one wr rfl (.tmp 27) (.tmp 36) 22 rfl 41 _ 2 16 elemSp (.slice vo ou.length vc) ou.length (flat ou) rfl HROW.out.own #[.int .i64 x, .int .i64 y] rfl rfl (by simp [Value.oneCell']) (by unfold maxLen; omega) (by omega) ?_; intro g c' w4 ho hf hg)
          have HR2 : Hid (SpRow w4 w.heap.size (.slice (some ⟨g, 0, none⟩) (ou.length + 1) c') (ou ++ [(x, y)])) := by
            show SpRow _ _ _ _
            exact SpRow.snoc (x := x) (y := y) HROW.out ho hg HQ.out.size
          have HQ2 : Hid (Quiet0 w w4) := Lib.hid (Fr.trans' HQ.out hf (fun kk hkk h => by have := HROW.out.low kk h; omega))
          clear ho hf hg
          go_wp2_with fail
          go_roundw
          case rel => exact ⟨i + 1, by go_num, by omega, by rw [HN.out]; exact HR2.out, HQ2.out⟩
          case measure => simp [intOf]; omega
        · have hp : pick1 l n = none := by unfold pick1; rw [if_neg (by omega)]
          have HN := Lib.hid (picks_none hn hp)
          clear hn hp hq hrow
          go_wp2_with fail
          go_roundw
          case rel => exact ⟨i + 1, by go_num, by omega, by rw [HN.out]; exact HROW.out, HQ.out⟩
          case measure => simp [intOf]; omega
      · have hp : pick1 l n = none := by unfold pick1; rw [if_neg (by omega)]
        have HN := Lib.hid (picks_none hn hp)
        clear hn hp hq hrow
        go_wp2_with fail
        go_roundw
        case rel => exact ⟨i + 1, by go_num, by omega, by rw [HN.out]; exact HROW.out, HQ.out⟩
        case measure => simp [intOf]; omega
    · have hlt' : ¬ (i : Int) < ns.length := by omega
      have htk : ns.take i = ns := List.take_of_length_le (by omega)
      rw [htk] at hrow hpl
      obtain ⟨vo, vc, rfl, hmx⟩ := hrow.form
      have HM := Lib.hid (refMerge_any (picks l ns) vo vc wr _ hrow.slc (by omega))
      clear hq hrow htk
      go_wp2_with fail
      refine HM.out.mono ?_; rintro e w5 ⟨v5, rfl, hr5, hq5⟩
      have HR5 := Lib.hid hr5
      have HQ5 := Lib.hid (HQ.out.trans hq5)
      have hz5 : w.heap.size ≤ wr.heap.size := HQ.out.size
      clear hr5 hq5
      go_wp2_with fail
      go_ret
      exact ⟨_, rfl, ⟨HR5.out.own, fun k hk => Nat.le_trans hz5 (HR5.out.low k hk)⟩, HQ5.out⟩
end Go.Proofs.YtdlcakmjihfgfaaDoor
