/-
  Texts laid together (TyCanon, TeSound): what each one proves, and its conditions, stands at its head.
-/
import Derived.Deep.DeepCutAuto
import Derived.Deep.RegionHeld3
import Derived.Deep.MidRow
import Derived.Test.YtggidhgifaekbaaDoorTR1
import Derived.Test.YtggidhgifaekbaaDoorTR2
import Derived.Test.YtggidhgifaekbaaDoorTR3
import Derived.Test.YtggidhgifaekbaaDoorTR4
import Derived.Test.YtggidhgifaekbaaDoorTR5
import Derived.Test.YtggidhgifaekbaaDoorTR6
section
/-
  types.Canon and Shift. Conditions: the type lies in memory as told; its numbers are in range; it is small.
-/
namespace Go.Proofs.YtggidhgifaekbaaDoor
open Go.RowKit Go.Maps

theorem vars_len : ∀ (f : Fo) (l : List Int), (Fo.vars l f).length ≤ l.length + f.size
  | .nil, l => by simp [Fo.vars, Fo.size]
  | .cons k n ps r, l => by
    rw [vars_cons]
    have h1 := vars_len r (Fo.vars (varStep l k n ps) ps)
    have h2 := vars_len ps (varStep l k n ps)
    have h3 : (varStep l k n ps).length ≤ l.length + 1 := by unfold varStep; split <;> simp
    simp only [Fo.size]; omega
theorem vars_all {G : Int → Prop} : ∀ (f : Fo) (l : List Int), (∀ v ∈ l, G v) → allF G f → ∀ v ∈ Fo.vars l f, G v
  | .nil, l, hl, _ => hl
  | .cons k n ps r, l, hl, hf => by
    rw [vars_cons]
    refine vars_all r _ (vars_all ps _ ?_ hf.2.1) hf.2.2
    unfold varStep
    split
    · intro v hv
      rcases List.mem_append.1 hv with h | h
      · exact hl v h
      · have : v = n := by simpa using h
        subst this; exact hf.1
    · exact hl
theorem IntRow.at {B : Nat} {w : World} {vo : Value} {l : List Int} (h : IntRow B w vo l) : ∃ a c, vo = .slice a l.length c ∧ l.length ≤ c ∧ (∀ g, (Value.slice a l.length c).ownBlock = some g → B ≤ g) ∧ w.ownsRow 0 3 1 (.slice a l.length c) l.length (ints l) := by
  obtain ⟨h1, h2⟩ := h
  have h1' := h1
  rcases h1.2 with ⟨rfl, h0⟩ | ⟨g, cap, cur, rfl, _, _, hc, _⟩
  · exact ⟨none, 0, by rw [h0], by omega, by rw [h0]; exact h2, by rw [h0]; rw [h0] at h1'; exact h1'⟩
  · exact ⟨some ⟨g, 0, none⟩, cap, rfl, by omega, h2, h1'⟩
theorem row_int {w : World} {a : Option Addr} {n c : Nat} {l : List Int} (h : w.ownsRow 0 3 1 (.slice a n c) l.length (ints l)) {i : Nat} {x : Int} (hx : l[i]? = some x) : ∃ g, a = some ⟨g, 0, none⟩ ∧ w.cell? ⟨g, i, none⟩ = some (.int .i64 x) := by
  rcases h.2 with ⟨he, h0⟩ | ⟨g, cap, cur, he, _⟩
  · rw [List.length_eq_zero_iff.1 h0] at hx; simp at hx
  · injection he with h1 h2 h3
    subst h1
    have := h.cells (g := g) rfl i (.int .i64 x) (by unfold ints; rw [List.getElem?_map, hx]; rfl)
    exact ⟨g, rfl, by simpa [Addr.add_lit] using this⟩
/-- each one's place -/
def placeN (l : List Int) : Nat → Int → Int
  | 0, _ => 0
  | i + 1, v => if l[i]? = some v then i else placeN l i v
def canonP (k n : Int) (ps : Fo) : Int → Int := placeN (Fo.vars [] (.cons k n ps .nil)) (Fo.vars [] (.cons k n ps .nil)).length
theorem eg_canon : ∀ args w, (callFunc 80 args).run Tryd.prog w = .ok (.enter 80 args) w := enters_of Tryd.func80 (by kernel_rfl) rfl
theorem canon1_any (w0 : World) (cs bm m : Nat) (p : Int → Int) (h1 : Box1 w0 cs (.map (some bm)) 84) (h2 : MapOf w0 bm m p) : DoK 80 #[.pointer (some ⟨cs, 0, none⟩)] w0 wfI p := by
  intro n W hn hq
  have c1 := cell_of_one (h1.fr hq (fun h => h))
  have hlk := (h2.stay hq).look hn
  clear h1 h2
  go_enter Tryd.func80, Tryd.ntmps80
  go_wp2_with fail
  go_ret
  exact ⟨rfl, Quiet0.refl _⟩
theorem newN_eq (p : Int → Int) (k n : Int) : newN p k n = if k == 1 then p n else n := rfl
set_option maxHeartbeats 4000000 in
set_option maxRecDepth 100000 in
theorem canon_any (k n : Int) (ps : Fo) (w : World) (o : Option Addr) (len cap : Nat) (hs : Slc w o len ps) (hn : wfI n) (hw : wfF ps) (hsz : ps.size ≤ 100000) :
    Calls Tryd.prog 35 #[tyv k n o len cap] w fun e w' => ∃ o' cap', e = .returned (tyv k (newN (canonP k n ps) k n) o' len cap') ∧ SlcIn (fun b => w.heap.size ≤ b) w' o' len (ps.change (canonP k n ps)) ∧ Quiet0 w w' := by
  have HS := Lib.hid hs
  have HN := Lib.hid hn
  have HW := Lib.hid hw
  have HWF : Hid (wfF (.cons k n ps .nil)) := ⟨hn, hw, trivial⟩
  have HSZ : Hid ((Fo.cons k n ps .nil).size ≤ 1000000) := by show _ ≤ _; simp only [Fo.size]; omega
  have hll : (Fo.vars [] (.cons k n ps .nil)).length ≤ 100001 := by have := vars_len (.cons k n ps .nil) []; simp only [Fo.size, List.length_nil] at this; omega
  have HWL : Hid (∀ v ∈ Fo.vars [] (.cons k n ps .nil), wfI v) := vars_all (G := wfI) _ [] (fun v h => by cases h) HWF.out
  have hmm := @run_makeMap Tryd.prog
  unfold canonP
  obtain ⟨W1, hW1⟩ : ∃ W1, W1 = ((((w.alloc (.cells #[.int .i64 k, .int .i64 n, .slice o len cap] 24)).alloc (.cells #[.int .i64 0, .int .i64 0, .slice none 0 0] 24)).alloc (.map #[] 0)).alloc (.cells #[.map (some (w.heap.size + 1 + 1))] 84)).alloc (.cells #[.int .i64 k, .int .i64 n, .slice o len cap] 24) := ⟨_, rfl⟩
  have HQ1 : Hid (Quiet0 w W1) := by rw [hW1]; exact ((((Quiet0.alloc _ _).trans (Quiet0.alloc _ _)).trans (Quiet0.alloc _ _)).trans (Quiet0.alloc _ _)).trans (Quiet0.alloc _ _)
  have s1 : (w.alloc (.cells #[.int .i64 k, .int .i64 n, .slice o len cap] 24)).heap.size = w.heap.size + 1 := by simp
  have s2 : ((w.alloc (.cells #[.int .i64 k, .int .i64 n, .slice o len cap] 24)).alloc (.cells #[.int .i64 0, .int .i64 0, .slice none 0 0] 24)).heap.size = w.heap.size + 1 + 1 := by simp
  have s3 : (((w.alloc (.cells #[.int .i64 k, .int .i64 n, .slice o len cap] 24)).alloc (.cells #[.int .i64 0, .int .i64 0, .slice none 0 0] 24)).alloc (.map #[] 0)).heap.size = w.heap.size + 1 + 1 + 1 := by simp
  have s4 : ((((w.alloc (.cells #[.int .i64 k, .int .i64 n, .slice o len cap] 24)).alloc (.cells #[.int .i64 0, .int .i64 0, .slice none 0 0] 24)).alloc (.map #[] 0)).alloc (.cells #[.map (some (w.heap.size + 1 + 1))] 84)).heap.size = w.heap.size + 1 + 1 + 1 + 1 := by simp
  have HB0 : Hid (W1.heap[w.heap.size]? = some (.cells #[.int .i64 k, .int .i64 n, .slice o len cap] 24 (0, 0))) := by
    rw [hW1]; exact box_after (heap_alloc_new w _) ((((Quiet0.alloc _ _).trans (Quiet0.alloc _ _)).trans (Quiet0.alloc _ _)).trans (Quiet0.alloc _ _))
  have HB1 : Hid (W1.heap[w.heap.size + 1]? = some (.cells #[.int .i64 0, .int .i64 0, .slice none 0 0] 24 (0, 0))) := by
    rw [hW1, ← s1]; exact box_after (heap_alloc_new _ _) (((Quiet0.alloc _ _).trans (Quiet0.alloc _ _)).trans (Quiet0.alloc _ _))
  have HM1 : Hid (MapOf W1 (w.heap.size + 1 + 1) 0 (fun _ => 0)) := by
    rw [hW1, ← s2]; exact (MapOf.made _).stay ((Quiet0.alloc _ _).trans (Quiet0.alloc _ _))
  have HC1 : Hid (Box1 W1 (w.heap.size + 1 + 1 + 1) (.map (some (w.heap.size + 1 + 1))) 84) := by
    rw [hW1, ← s3]
    have := (Box1.new (((w.alloc (.cells #[.int .i64 k, .int .i64 n, .slice o len cap] 24)).alloc (.cells #[.int .i64 0, .int .i64 0, .slice none 0 0] 24)).alloc (.map #[] 0)) (.map (some (w.heap.size + 1 + 1))) 84).alloc (.cells #[.int .i64 k, .int .i64 n, .slice o len cap] 24)
    rw [s3] at this ⊢
    exact this
  have HSL : Hid (Slc W1 (some ⟨w.heap.size + 1 + 1 + 1 + 1, 0, none⟩) 1 (.cons k n ps .nil)) := by
    have hb : W1.heap[w.heap.size + 1 + 1 + 1 + 1]? = some (.cells #[.int .i64 k, .int .i64 n, .slice o len cap] 24 (0, 0)) := by rw [hW1, ← s4]; exact heap_alloc_new _ _
    have h1 := HS.out.stay HQ1.out
    exact ⟨rfl, by decide, fun _ => ⟨_, 0, rfl, by rw [cell_of_row _ _ _ _ _ (0, 0) hb]; rfl, by rw [cell_of_row _ _ _ _ _ (0, 0) hb]; rfl, ⟨o, len, cap, by rw [cell_of_row _ _ _ _ _ (0, 0) hb]; rfl, h1.1, h1.2.1, h1.2.2⟩, trivial⟩⟩
  have hz1 : w.heap.size + 1 + 1 + 1 + 1 < W1.heap.size := by rw [hW1]; simp
  have HVA := Lib.hid (vars_any (.cons k n ps .nil) W1 _ 1 1 HSL.out HWF.out HSZ.out)
  generalize hL : Fo.vars [] (.cons k n ps .nil) = L at *
  obtain ⟨P, hP⟩ : ∃ P, P = placeN L L.length := ⟨_, rfl⟩
  rw [← hP]
  obtain ⟨n', hn'⟩ : ∃ n', n' = newN P k n := ⟨_, rfl⟩
  rw [← hn']
  have HP := Lib.hid hP
  have HN' := Lib.hid hn'
  clear hs hn hw hL s1 s2 s3 s4 hP hn'
  unfold tyv
  go_enter Tryd.func35, Tryd.ntmps35
  go_wp2_with fail
  rw [← hW1]
  generalize hB : w.heap.size = B at *
  clear hW1
  refine HVA.out.mono ?_; rintro e w2 ⟨vo, rfl, hrow, hq2⟩
  obtain ⟨a, c, rfl, hlc, hge, hown⟩ := hrow.at
  have HOWN := Lib.hid hown
  have HGE := Lib.hid hge
  have HQ2 := Lib.hid hq2
  clear hrow hown hge hq2
  go_wp2_with fail
  go_loopw [4, 5, 11] (fun _ _ t wr => ∃ i : Nat, t = .int .i64 i ∧ i ≤ L.length ∧ MapOf wr (B + 1 + 1) i (placeN L i) ∧ Fr (fun j => j = B + 1 + 1) w2 wr) (fun _ _ t _ => L.length - (intOf t).toNat)
  case atStart => exact ⟨0, rfl, Nat.zero_le _, (HM1.out.stay HQ2.out).cong (fun _ _ => rfl), Fr.refl _ _⟩
  case round =>
    obtain ⟨i, rfl, hi, hm, hf⟩ := hrel
    have HM := Lib.hid hm
    have HF := Lib.hid hf
    have hC := ((HC1.out.fr HQ2.out (fun h => h)).fr hf (fun h => by omega))
    have HCC := Lib.hid hC
    have c3 := cell_of_one hC
    clear hm hf hC
    by_cases hlt : i < L.length
    · have hlt' : (i : Int) < L.length := by omega
      obtain ⟨x, hx⟩ : ∃ x, L[i]? = some x := ⟨_, List.getElem?_eq_getElem hlt⟩
      obtain ⟨g, rfl, hc⟩ := row_int (ownsRow_fr HOWN.out HF.out (fun g hg h => by have := HGE.out g hg; have h' : g = B + 1 + 1 := h; omega)) hx
      have HX := Lib.hid hx
      have HWX := Lib.hid (HWL.out x (List.mem_of_getElem? hx))
      have HWI : Hid (wfI (i : Int)) := wfI_of (by omega) (by omega)
      clear hx
      go_wp2_with (at_mapUpdate; go_must (refine wpList_store _ rfl _ _ _ rfl rfl HM.out ?hn x i HWX.out HWI.out rfl rfl ?_))
      case hn => unfold maxLen; omega
      intro w3 hm3 hf3
      have HM3 : Hid (MapOf w3 (B + 1 + 1) (i + 1) (placeN L (i + 1))) := hm3.cong (fun v _ => by
        show _ = (if L[i]? = some v then (i : Int) else placeN L i v)
        rw [HX.out]
        by_cases h : v = x
        · rw [if_pos h, if_pos (by rw [h])]
        · rw [if_neg h, if_neg (fun hh => h (by injection hh with hh; exact hh.symm))])
      have HF3 := Lib.hid (HF.out.trans hf3)
      clear hm3 hf3
      go_wp2_with fail
      go_roundw
      case rel => exact ⟨i + 1, by go_num, by omega, HM3.out, HF3.out⟩
      case measure => simp [intOf]; omega
    · have hlt' : ¬ (i : Int) < L.length := by omega
      have hil : i = L.length := by omega
      subst hil
      have HFF : Hid (Fr (fun j => j = B + 1 + 1) W1 wr) := (HQ2.out.mono (fun _ _ h => h.elim)).trans HF.out
      have hb0 : wr.heap[B]? = some (.cells #[.int .i64 k, .int .i64 n, .slice o len cap] 24 (0, 0)) := by rw [HFF.out.block B (by omega) (fun h => by have h' : B = B + 1 + 1 := h; omega)]; exact HB0.out
      have hb1 : wr.heap[B + 1]? = some (.cells #[.int .i64 0, .int .i64 0, .slice none 0 0] 24 (0, 0)) := by rw [HFF.out.block (B + 1) (by omega) (fun h => by have h' : B + 1 = B + 1 + 1 := h; omega)]; exact HB1.out
      obtain ⟨a0, a1, a2, _, _, _⟩ := box_cells3 hb0
      have HSR : Hid (Slc wr o len ps) := (HS.out.lt.fr (T := fun j => j < w.heap.size) (Fr.trans' (HQ1.out.mono (fun _ _ h => h.elim)) HFF.out (fun i _ h => h)) (fun j _ hj => ⟨hj, fun h => by have h' : j = B + 1 + 1 := h; have h2 : j < w.heap.size := hj; omega⟩)).slc
      have HD := Lib.hid (change_any eg_canon (canon1_any wr (B + 1 + 1 + 1) (B + 1 + 1) L.length (placeN L L.length) HCC.out HM.out) k n ps wr o len cap (Quiet0.refl _) HSR.out (by omega) HN.out HW.out)
      have HBB1 := Lib.hid hb1
      rw [← HP.out, ← HN'.out] at HD
      unfold tyv at HD
      clear hb0 hb1
      go_wp2_with fail
      refine HD.out.mono ?_; rintro e w4 ⟨o2, cap2, rfl, hs4, hq4⟩
      have hbb := box_after HBB1.out hq4
      have HB4 := Lib.hid hbb
      obtain ⟨d0, d1, d2, y0, y1, y2⟩ := box_cells3 hbb
      have HS4 := Lib.hid hs4
      have HQ4 := Lib.hid hq4
      clear hs4 hq4 hbb a0 a1 a2
      go_wp2_with fail
      clear d0 d1 d2 y0 y1 y2
      have hf := put3_fr w4 (B + 1) (.int .i64 k) (.int .i64 n') (.slice o2 len cap2)
      obtain ⟨f0, f1, f2⟩ := put3_cells (a := .int .i64 k) (b := .int .i64 n') (c := .slice o2 len cap2) HB4.out
      change bodyPost _ _ _ _ _ (put3 w4 (B + 1) (.int .i64 k) (.int .i64 n') (.slice o2 len cap2))
      generalize put3 w4 (B + 1) (.int .i64 k) (.int .i64 n') (.slice o2 len cap2) = wf at *
      refine bodyPost_ret (by simp [results, Tryd.results35, go_sem, f0, f1, f2]; rfl) rfl ?_
      refine ⟨o2, cap2, rfl, HS4.out.fr hf ?_, ?_⟩
      · intro j _ hj
        have hj' : wr.heap.size ≤ j := hj
        have := HFF.out.size
        exact ⟨by omega, by omega⟩
      · exact Fr.trans' (Fr.trans' (Fr.trans' HQ1.out HFF.out (fun i hi h => by have h' : i = B + 1 + 1 := h; omega)) HQ4.out (fun _ _ h => h)) hf (fun i hi h => by have h' : i = B + 1 := h; omega)
end Go.Proofs.YtggidhgifaekbaaDoor
end
section
/-
  Whether a term is right, but for its parts: the program's shapes and plain. Conditions: the term lies in memory as told; its name and its type are small; strings.asciiSpace holds what its initialiser lays.
-/
namespace Go.Proofs.YtggidhgifaekbaaDoor
open Go.RowKit

def kName (k : Int) : Bool := k == 1 || k == 4 || k == 6 || k == 7
def kTop (k : Int) : Int := if k == 1 then 9223372036854775807 else if k == 2 then 999999999 else if k == 3 then 1 else 0
def kLeast (k : Int) : Int := if k == 4 || k == 10 then 1 else if k == 5 || k == 6 || k == 7 || k == 9 then 2 else if k == 8 then 3 else 0
def kMost (k : Int) : Int := if k == 4 || k == 10 then 1 else if k == 5 || k == 6 || k == 7 then 2 else if k == 8 then 3 else if k == 9 then 8 else 0
def closedT (tk tn : Int) (tp : Fo) : Bool := rightT tk tn tp && (Fo.vars [] (.cons tk tn tp .nil)).isEmpty
def namedB (h : Nd) : Bool := if kName h.k then Lx.nameB h.nm.data.toList else h.nm.toList.isEmpty
def typedB (h : Nd) : Bool := if h.k == 10 then closedT h.tk h.tn h.tp else sameT h.tk h.tn h.tp 0 0 .nil
/-- is a term right, but for its parts (there are m)? -/
def soundB (h : Nd) (m : Nat) : Bool :=
  decide (1 ≤ h.k) && decide (h.k ≤ 10) && namedB h && typedB h && decide (0 ≤ h.n) && decide (h.n ≤ kTop h.k) && decide (kLeast h.k ≤ m) && decide ((m : Int) ≤ kMost h.k)

def shapeCells : Array Value := #[
  .bool false, .bool false, .int .i64 0, .int .i64 0, .int .i64 0,
  .bool true, .bool false, .int .i64 0, .int .i64 0, .int .i64 9223372036854775807,
  .bool false, .bool false, .int .i64 0, .int .i64 0, .int .i64 999999999,
  .bool false, .bool false, .int .i64 0, .int .i64 0, .int .i64 1,
  .bool true, .bool false, .int .i64 1, .int .i64 1, .int .i64 0,
  .bool false, .bool false, .int .i64 2, .int .i64 2, .int .i64 0,
  .bool true, .bool false, .int .i64 2, .int .i64 2, .int .i64 0,
  .bool true, .bool false, .int .i64 2, .int .i64 2, .int .i64 0,
  .bool false, .bool false, .int .i64 3, .int .i64 3, .int .i64 0,
  .bool false, .bool false, .int .i64 2, .int .i64 8, .int .i64 0,
  .bool false, .bool true, .int .i64 1, .int .i64 1, .int .i64 0]
theorem results_one {P : Program} {fn : Func} {tmps : Array Value} {t : TypeId} {a : Tmp} {ad : Addr} {v : Value} {w : World} (hr : fn.results = #[.cell a t]) (hx : tmps.getD a undef = .pointer (some ad)) (hl : (loadVar t ad).run P w = .ok v w) : (results fn tmps).run P w = .ok v w := by
  have hx2 : tmps[a]?.getD undef = .pointer (some ad) := by simpa using hx
  simp [results, hr, asAddr, hx2, hl]
theorem wpList_build_as {P : Program} {ops : Array Oper} {rest : List Oper} {o : Oper} {a : Act} {w : World} {Q : Exit → Act → World → Prop} (hg : o.guard = none) (t : TypeId) (parts : Array (Nat × Operand)) (ho : o.op = .build t parts)
    (cs : Array Value) (hc : P.built t (parts.map fun (i, x) => (i, a.eval x)).toList = some cs)
    (h : wpList P ops Q rest (a.put o.dst (.agg cs)) w) : wpList P ops Q (o :: rest) a w :=
  wpList_build hg t parts ho (by rw [hc]; rfl) (by rw [hc]; exact h)
def zeroCells : Array Value := #[
  .bool false, .bool false, .int .i64 0, .int .i64 0, .int .i64 0, .bool false, .bool false, .int .i64 0, .int .i64 0, .int .i64 0,
  .bool false, .bool false, .int .i64 0, .int .i64 0, .int .i64 0, .bool false, .bool false, .int .i64 0, .int .i64 0, .int .i64 0,
  .bool false, .bool false, .int .i64 0, .int .i64 0, .int .i64 0, .bool false, .bool false, .int .i64 0, .int .i64 0, .int .i64 0,
  .bool false, .bool false, .int .i64 0, .int .i64 0, .int .i64 0, .bool false, .bool false, .int .i64 0, .int .i64 0, .int .i64 0,
  .bool false, .bool false, .int .i64 0, .int .i64 0, .int .i64 0, .bool false, .bool false, .int .i64 0, .int .i64 0, .int .i64 0,
  .bool false, .bool false, .int .i64 0, .int .i64 0, .int .i64 0]
set_option maxHeartbeats 4000000 in
set_option maxRecDepth 100000 in
theorem shapes_any (w : World) : Calls Tryd.prog 114 #[] w fun e w' => e = .returned (.agg shapeCells) ∧ Quiet0 w w' := by
  obtain ⟨W0, hW0⟩ : ∃ W0, W0 = w.alloc (.cells zeroCells 115) := ⟨_, rfl⟩
  obtain ⟨B, hB⟩ : ∃ B, B = w.heap.size := ⟨_, rfl⟩
  have hb0 : W0.heap[B]? = some (.cells zeroCells 115 (0, 0)) := by rw [hW0, hB]; exact heap_alloc_new _ _
  have HQ0 : Hid (Quiet0 w W0) := by rw [hW0]; exact Quiet0.alloc _ _
  have HB0 := Lib.hid hb0
  have HBE := Lib.hid hB
  have hi : (Tryd.prog.info? 115).map (·.size) = some 55 := by kernel_rfl
  have HI := Lib.hid hi
  clear hi hb0
  go_enter Tryd.func114, Tryd.ntmps114
  go_upto_region 1 with fail
  change Code.wp _ _ _ _ (w.alloc (.cells zeroCells 115))
  rw [← hW0, ← hB]
  clear hW0 hB
  refine wp_region_lit ?_
  with_reducible refine wpList_build_as (by rfl) 114 _ (by rfl) #[.bool true, .bool false, .int .i64 0, .int .i64 0, .int .i64 9223372036854775807] (by kernel_rfl) ?_
  simp only [Act.put, List.setIfInBounds_toArray, List.set_cons_zero, List.set_cons_succ]
  with_reducible refine wpList_build_as (by rfl) 114 _ (by rfl) #[.bool false, .bool false, .int .i64 0, .int .i64 0, .int .i64 999999999] (by kernel_rfl) ?_
  simp only [Act.put, List.setIfInBounds_toArray, List.set_cons_zero, List.set_cons_succ]
  with_reducible refine wpList_build_as (by rfl) 114 _ (by rfl) #[.bool false, .bool false, .int .i64 0, .int .i64 0, .int .i64 1] (by kernel_rfl) ?_
  simp only [Act.put, List.setIfInBounds_toArray, List.set_cons_zero, List.set_cons_succ]
  with_reducible refine wpList_build_as (by rfl) 114 _ (by rfl) #[.bool true, .bool false, .int .i64 1, .int .i64 1, .int .i64 0] (by kernel_rfl) ?_
  simp only [Act.put, List.setIfInBounds_toArray, List.set_cons_zero, List.set_cons_succ]
  with_reducible refine wpList_build_as (by rfl) 114 _ (by rfl) #[.bool false, .bool false, .int .i64 2, .int .i64 2, .int .i64 0] (by kernel_rfl) ?_
  simp only [Act.put, List.setIfInBounds_toArray, List.set_cons_zero, List.set_cons_succ]
  with_reducible refine wpList_build_as (by rfl) 114 _ (by rfl) #[.bool true, .bool false, .int .i64 2, .int .i64 2, .int .i64 0] (by kernel_rfl) ?_
  simp only [Act.put, List.setIfInBounds_toArray, List.set_cons_zero, List.set_cons_succ]
  with_reducible refine wpList_build_as (by rfl) 114 _ (by rfl) #[.bool true, .bool false, .int .i64 2, .int .i64 2, .int .i64 0] (by kernel_rfl) ?_
  simp only [Act.put, List.setIfInBounds_toArray, List.set_cons_zero, List.set_cons_succ]
  with_reducible refine wpList_build_as (by rfl) 114 _ (by rfl) #[.bool false, .bool false, .int .i64 3, .int .i64 3, .int .i64 0] (by kernel_rfl) ?_
  simp only [Act.put, List.setIfInBounds_toArray, List.set_cons_zero, List.set_cons_succ]
  with_reducible refine wpList_build_as (by rfl) 114 _ (by rfl) #[.bool false, .bool false, .int .i64 2, .int .i64 8, .int .i64 0] (by kernel_rfl) ?_
  simp only [Act.put, List.setIfInBounds_toArray, List.set_cons_zero, List.set_cons_succ]
  with_reducible refine wpList_build_as (by rfl) 114 _ (by rfl) #[.bool false, .bool true, .int .i64 1, .int .i64 1, .int .i64 0] (by kernel_rfl) ?_
  simp only [Act.put, List.setIfInBounds_toArray, List.set_cons_zero, List.set_cons_succ]
  with_reducible refine wpList_build_as (by rfl) 115 _ (by rfl) shapeCells (by kernel_rfl) ?_
  simp only [Act.put, List.setIfInBounds_toArray, List.set_cons_zero, List.set_cons_succ]
  with_reducible refine wpList_store_row ?e1 115 (.tmp 0) (.tmp 11) ?e2 B shapeCells ?e3 ?e4 115 zeroCells HB0.out ?e5 ?e6 ?e7 ?_
  case e1 => rfl
  case e2 => rfl
  case e3 => rfl
  case e4 => rfl
  case e5 => exact HI.out
  case e6 => rfl
  case e7 => simp [shapeCells, Value.oneCell']
  simp only [Act.put]
  have hb1 := setRow_heap W0 B zeroCells shapeCells 115 (0, 0) HB0.out
  have hq1 : Quiet0 w (W0.setRow B shapeCells) := Fr.trans' HQ0.out (S := fun _ => False) (T := fun k => k = B) ⟨rfl, rfl, rfl, by simp, fun k _ hk => setRow_other W0 B k shapeCells hk⟩ (fun k hk e => by have := HBE.out; omega)
  generalize W0.setRow B shapeCells = W1 at *
  have HB1 := Lib.hid hb1
  have HQ1 := Lib.hid hq1
  clear hb1 hq1
  go_wp2_with fail
  have hb1 := HB1.out
  have hl := run_loadVar_mid (P := Tryd.prog) W1 B 0 115 shapeCells.toList _ (fun j v hv => by rw [cell_of_row _ _ _ _ _ (0, 0) hb1, Nat.zero_add]; simpa using hv) Tryd.underlying115 (by rfl) HI.out
  refine bodyPost_ret (results_one (a := 0) (t := 115) (ad := ⟨B, 0, none⟩) Tryd.results114 (by rfl) hl) (by rfl) ?_
  exact ⟨rfl, HQ1.out⟩
set_option maxRecDepth 100000 in
theorem shape_at (k : Int) (h1 : 1 ≤ k) (h2 : k ≤ 10) (W : World) : Sem.run Tryd.prog (Instr.index 115 (.agg shapeCells) (.int .i64 k)) W = .ok (.agg #[.bool (kName k), .bool (k == 10), .int .i64 (kLeast k), .int .i64 (kMost k), .int .i64 (kTop k)]) W := by
  have hk : k = 1 ∨ k = 2 ∨ k = 3 ∨ k = 4 ∨ k = 5 ∨ k = 6 ∨ k = 7 ∨ k = 8 ∨ k = 9 ∨ k = 10 := by omega
  rcases hk with rfl | rfl | rfl | rfl | rfl | rfl | rfl | rfl | rfl | rfl
  all_goals rfl
theorem cells5 {w : World} {b : Nat} {a0 a1 a2 a3 a4 : Value} {t : TypeId} (h : w.heap[b]? = some (.cells #[a0, a1, a2, a3, a4] t (0, 0))) :
    w.cell? ⟨b, 0, none⟩ = some a0 ∧ w.cell? ⟨b, 1, none⟩ = some a1 ∧ w.cell? ⟨b, 2, none⟩ = some a2 ∧ w.cell? ⟨b, 3, none⟩ = some a3 ∧ w.cell? ⟨b, 4, none⟩ = some a4 := by
  refine ⟨?_, ?_, ?_, ?_, ?_⟩ <;> (rw [cell_of_row _ _ _ _ _ (0, 0) h]; rfl)
theorem set5_fr (w : World) (b : Nat) (a0 a1 a2 a3 a4 : Value) : Fr (fun j => j = b) w (((((w.setCell ⟨b, 0, none⟩ a0).setCell ⟨b, 1, none⟩ a1).setCell ⟨b, 2, none⟩ a2).setCell ⟨b, 3, none⟩ a3).setCell ⟨b, 4, none⟩ a4) :=
  ((((Fr.setCell (fun j => j = b) w ⟨b, 0, none⟩ a0 rfl).trans (Fr.setCell (fun j => j = b) _ ⟨b, 1, none⟩ a1 rfl)).trans (Fr.setCell (fun j => j = b) _ ⟨b, 2, none⟩ a2 rfl)).trans (Fr.setCell (fun j => j = b) _ ⟨b, 3, none⟩ a3 rfl)).trans (Fr.setCell (fun j => j = b) _ ⟨b, 4, none⟩ a4 rfl)
theorem set5_block {w : World} {b : Nat} {a0 a1 a2 a3 a4 b0 b1 b2 b3 b4 : Value} {t : TypeId} (h : w.heap[b]? = some (.cells #[b0, b1, b2, b3, b4] t (0, 0))) :
    (((((w.setCell ⟨b, 0, none⟩ a0).setCell ⟨b, 1, none⟩ a1).setCell ⟨b, 2, none⟩ a2).setCell ⟨b, 3, none⟩ a3).setCell ⟨b, 4, none⟩ a4).heap[b]? = some (.cells #[a0, a1, a2, a3, a4] t (0, 0)) := by
  have s0 : (w.setCell ⟨b, 0, none⟩ a0).heap[b]? = some (.cells #[a0, b1, b2, b3, b4] t (0, 0)) := set_block h
  have s1 : ((w.setCell ⟨b, 0, none⟩ a0).setCell ⟨b, 1, none⟩ a1).heap[b]? = some (.cells #[a0, a1, b2, b3, b4] t (0, 0)) := set_block s0
  have s2 : (((w.setCell ⟨b, 0, none⟩ a0).setCell ⟨b, 1, none⟩ a1).setCell ⟨b, 2, none⟩ a2).heap[b]? = some (.cells #[a0, a1, a2, b3, b4] t (0, 0)) := set_block s1
  have s3 : ((((w.setCell ⟨b, 0, none⟩ a0).setCell ⟨b, 1, none⟩ a1).setCell ⟨b, 2, none⟩ a2).setCell ⟨b, 3, none⟩ a3).heap[b]? = some (.cells #[a0, a1, a2, a3, b4] t (0, 0)) := set_block s2
  exact set_block s3
set_option maxHeartbeats 8000000 in
set_option maxRecDepth 100000 in
theorem sound_in (k : Int) (hk1 : 1 ≤ k) (hk2 : k ≤ 10) (nm : ByteArray) (n tk tn : Int) (tp0 : Fo) (fr en : Int) (w : World) (o1 : Option Addr) (l1 c1 : Nat) (o2 : Option Addr) (l2 c2 : Nat)
    (hs : Slc w o1 l1 tp0) (hnm : nm.size ≤ 100000) (hz : tp0.size ≤ 100000) (hwn : wfI tn) (hwf : wfF tp0) (_ : l2 ≤ 9223372036854775807) (ht : Lx.Spaces w) :
    Calls Tryd.prog 76 #[.agg #[.int .i64 k, .string nm, .int .i64 n, .int .i64 tk, .int .i64 tn, .slice o1 l1 c1, .slice o2 l2 c2, .int .i64 fr, .int .i64 en]] w fun e w' => e = .returned (.bool (soundB ⟨k, nm, n, tk, tn, tp0, fr, en⟩ l2)) ∧ Quiet0 w w' := by
  have HSH := Lib.hid (fun (W : World) => shapes_any W)
  have HNAME := Lib.hid (fun (W : World) (h : Quiet0 w W) => Lx.name_any nm hnm W (ht.stay h))
  have HSAME := Lib.hid (fun (W : World) (h : Quiet0 w W) => same_any tk tn tp0 0 0 .nil W o1 l1 c1 none 0 0 (hs.stay h) (Slc.nil _ _))
  have HRIGHT := Lib.hid (fun (W : World) (h : Quiet0 w W) => right_any tk tn tp0 W o1 l1 c1 (hs.stay h))
  have HVARS : Hid (∀ W' b, Quiet0 w W' → W'.heap[b]? = some (.cells #[.int .i64 tk, .int .i64 tn, .slice o1 l1 c1] 24 (0, 0)) → Calls Tryd.prog 36 #[.slice (some ⟨b, 0, none⟩) 1 1] W' fun e w' => ∃ a c, e = .returned (.slice a (Fo.vars [] (.cons tk tn tp0 .nil)).length c) ∧ Quiet0 W' w') := by
    intro W' b h hb
    refine (vars_any (.cons tk tn tp0 .nil) W' (some ⟨b, 0, none⟩) 1 1 (slc1 hb (hs.stay h)) ⟨hwn, hwf, trivial⟩ (by simp only [Fo.size]; omega)).mono ?_
    rintro e w' ⟨vo, rfl, hr, hq⟩
    obtain ⟨a, c, rfl, _⟩ := hr.at
    exact ⟨a, c, rfl, hq⟩
  have hix := shape_at k hk1 hk2
  obtain ⟨res, hres⟩ : ∃ res, res = soundB ⟨k, nm, n, tk, tn, tp0, fr, en⟩ l2 := ⟨_, rfl⟩
  rw [← hres]
  have HRES0 : Hid (res = ((if kName k then Lx.nameB nm.data.toList else nm.toList.isEmpty) && (if (k == 10) then (rightT tk tn tp0 && (Fo.vars [] (.cons tk tn tp0 .nil)).isEmpty) else sameT tk tn tp0 0 0 .nil) && decide (0 ≤ n) && decide (n ≤ kTop k) && decide (kLeast k ≤ (l2 : Int)) && decide ((l2 : Int) ≤ kMost k))) := by
    show _ = _
    rw [hres]; unfold soundB namedB typedB closedT; simp only [hk1, hk2, decide_true, Bool.true_and]
  clear hres hs ht hwn hwf hz hnm
  generalize kName k = sn at *
  generalize (k == 10) = st at *
  generalize kLeast k = le at *
  generalize kMost k = mo at *
  generalize kTop k = tp at *
  obtain ⟨W0, hW0⟩ : ∃ W0, W0 = w.alloc (.cells #[.int .i64 k, .string nm, .int .i64 n, .int .i64 tk, .int .i64 tn, .slice o1 l1 c1, .slice o2 l2 c2, .int .i64 fr, .int .i64 en] 35) := ⟨_, rfl⟩
  obtain ⟨B, hB⟩ : ∃ B, B = w.heap.size := ⟨_, rfl⟩
  have hb0 : W0.heap[B]? = some (.cells #[.int .i64 k, .string nm, .int .i64 n, .int .i64 tk, .int .i64 tn, .slice o1 l1 c1, .slice o2 l2 c2, .int .i64 fr, .int .i64 en] 35 (0, 0)) := by rw [hW0, hB]; exact heap_alloc_new _ _
  have HQ0 : Hid (Quiet0 w W0) := by rw [hW0]; exact Quiet0.alloc _ _
  have HB0 : Hid (∀ W, Quiet0 W0 W → W.heap[B]? = some (.cells #[.int .i64 k, .string nm, .int .i64 n, .int .i64 tk, .int .i64 tn, .slice o1 l1 c1, .slice o2 l2 c2, .int .i64 fr, .int .i64 en] 35 (0, 0))) := fun W h => (h.block _ (lt_of_block hb0) (fun h => h)).trans hb0
  have hBlt : B < W0.heap.size := lt_of_block hb0
  clear hb0
  have HBC : Hid (∀ W, Quiet0 W0 W → W.cell? ⟨B, 0, none⟩ = some (.int .i64 k)) := fun W h => by rw [cell_of_row _ _ _ _ _ (0, 0) (HB0.out W h)]; rfl
  have HBF : Hid (∀ W, Fr (fun j => W0.heap.size ≤ j) W0 W → W.cell? ⟨B, 0, none⟩ = some (.int .i64 k)) := fun W h => (h.cellb hBlt (fun hh => by have h2 : W0.heap.size ≤ B := hh; omega)).trans (HBC.out _ (Quiet0.refl _))
  have hnk1 : ¬ k < 1 := by omega
  have hnk2 : ¬ 10 < k := by omega
  clear hBlt
  go_enter Tryd.func76, Tryd.ntmps76
  go_upto_region 3 with fail
  change Code.wp _ _ _ _ (w.alloc (.cells #[.int .i64 k, .string nm, .int .i64 n, .int .i64 tk, .int .i64 tn, .slice o1 l1 c1, .slice o2 l2 c2, .int .i64 fr, .int .i64 en] 35))
  rw [← hW0, ← hB]
  clear hW0 hB
  go_cut [3] (fun t wx => ∃ sb : Nat, t = .pointer (some ⟨sb, 0, none⟩) ∧ wx.heap[sb]? = some (.cells #[.bool sn, .bool st, .int .i64 le, .int .i64 mo, .int .i64 tp] 114 (0, 0)) ∧ Quiet0 W0 wx)
  case first =>
    clear HRES0 HNAME HSAME HRIGHT HVARS
    have HFR := Fr.refl (fun j => W0.heap.size ≤ j) W0
    have a0 := HBF.out _ HFR
    go_region_held3 (fun w' => w'.cell? ⟨B, 0, none⟩ = some (.int .i64 k))
      (((refine HBF.out _ ?_); (repeat (first | with_reducible exact HFR | with_reducible exact Quiet0.fr hqc | with_reducible exact Fr.refl _ _ | with_reducible refine Fr.trans ?_ (Fr.alloc _ _ _) | with_reducible refine Fr.trans ?_ (Fr.drew _ _) | ((with_reducible refine Fr.trans ?_ (Fr.setCell _ _ _ _ ?hsd)); (case hsd => (simp <;> omega))) | fail))))
      (first
        | (go_at_call 114; (with_reducible refine Calls.mono (HSH.out _) ?_); rintro e wx ⟨rfl, hqx⟩; (try (refine box5_use (b := W0.heap.size) (t := 114) (a0 := .bool false) (a1 := .bool false) (a2 := .int .i64 0) (a3 := .int .i64 0) (a4 := .int .i64 0) (blk_after hqx ?hbk) ?_; (case hbk => exact blk_new _ _ _ _ rfl); intro f0 f1 f2 f3 f4 y0 y1 y2 y3 y4 hzz)); (refine with_frq (S := fun j => W0.heap.size ≤ j) (w0 := W0) ?hfr hqx ?_); (case hfr => (repeat (first | with_reducible exact HFR | with_reducible exact Quiet0.fr hqc | with_reducible exact Fr.refl _ _ | with_reducible refine Fr.trans ?_ (Fr.alloc _ _ _) | with_reducible refine Fr.trans ?_ (Fr.drew _ _) | ((with_reducible refine Fr.trans ?_ (Fr.setCell _ _ _ _ ?hsd)); (case hsd => (simp <;> omega))) | fail))); intro HFR))
    all_goals
      clear hix HSH a0 HBC HBF HB0
      generalize shapeCells = sc at *
      go_step
      go_step
      go_meet
      refine ⟨_, rfl, ?hbb, ?hqq⟩
      case hbb =>
        first
        | with_reducible exact heap_alloc_new _ _
        | with_reducible exact set5_block hzz
      case hqq =>
        unfold Quiet0
        have h0 : Fr (fun _ => False) W0 wx := HFR.mono (fun i hi h => by have h2 : W0.heap.size ≤ i := h; omega)
        first
        | with_reducible exact Fr.trans h0 (Fr.alloc _ _ _)
        | (with_reducible refine Fr.trans' (T := fun j => j = W0.heap.size) h0 ?_ (fun i hi e => by omega)
           with_reducible exact set5_fr _ _ _ _ _ _ _)
  case rest =>
    rename World => wx
    obtain ⟨sb, rfl, hsb, hqx⟩ := hcut
    have HSB : Hid (∀ W, Quiet0 wx W → W.heap[sb]? = some (.cells #[.bool sn, .bool st, .int .i64 le, .int .i64 mo, .int .i64 tp] 114 (0, 0))) := fun W h => (h.block _ (lt_of_block hsb) (fun h => h)).trans hsb
    have HQX := Lib.hid hqx
    have HRES := HRES0
    clear HBC HBF HSH hix HRES0 hsb hqx
    obtain ⟨b0, b1, b2, b3, b4, b5, b6, b7, b8⟩ := cells9_block (h := ⟨k, nm, n, tk, tn, tp0, fr, en⟩) (HB0.out _ HQX.out)
    obtain ⟨s0, s1, s2, s3, s4⟩ := cells5 (HSB.out _ (Quiet0.refl wx))
    generalize sameT tk tn tp0 0 0 .nil = sm at *
    generalize rightT tk tn tp0 = rt at *
    generalize Fo.vars [] (.cons tk tn tp0 .nil) = L at *
    unfold tyv at HSAME HRIGHT
    cases sn
    · cases hbn : nm.toList.isEmpty
      · have e2 : ¬ nm.toList = [] := by simpa using hbn
        have e3 : nm.toList.isEmpty = false := hbn
        rw [hbn] at HRES
        clear hbn
        have HX1 := Lib.hid (Quiet0.refl wx)
        cases st
        · go_wp2_with fail
          refine (HSAME.out _ (HQ0.out.trans HQX.out)).mono ?_; rintro e w5 ⟨rfl, hq5⟩
          have HF := Lib.hid ((HQ0.out.trans HQX.out).trans hq5)
          have HF0 := Lib.hid (HQX.out.trans hq5)
          have HF1 := Lib.hid (HX1.out.trans hq5)
          clear hq5
          clear b0 b1 b2 b3 b4 b5 b6 b7 b8 s0 s1 s2 s3 s4
          obtain ⟨b0, b1, b2, b3, b4, b5, b6, b7, b8⟩ := cells9_block (h := ⟨k, nm, n, tk, tn, tp0, fr, en⟩) (HB0.out _ HF0.out)
          obtain ⟨s0, s1, s2, s3, s4⟩ := cells5 (HSB.out _ HF1.out)
          change Hid (res = (false && sm && decide (0 ≤ n) && decide (n ≤ tp) && decide (le ≤ (l2 : Int)) && decide ((l2 : Int) ≤ mo))) at HRES
          generalize sm = bt at *
          go_upto_region 11 with fail
          go_wp2_with fail
          all_goals first
          | (exfalso; omega)
          | (go_ret; exact ⟨by rw [HRES.out]; simp <;> omega, HF.out⟩)
        · go_wp2_with fail
          refine (HSAME.out _ (HQ0.out.trans HQX.out)).mono ?_; rintro e w3 ⟨rfl, hq3⟩
          have HE0 := Lib.hid (HQX.out.trans hq3)
          have HE1 := Lib.hid (HX1.out.trans hq3)
          clear hq3 b0 b1 b2 b3 b4 b5 b6 b7 b8 s0 s1 s2 s3 s4
          obtain ⟨b0, b1, b2, b3, b4, b5, b6, b7, b8⟩ := cells9_block (h := ⟨k, nm, n, tk, tn, tp0, fr, en⟩) (HB0.out _ HE0.out)
          obtain ⟨s0, s1, s2, s3, s4⟩ := cells5 (HSB.out _ HE1.out)
          go_wp2_with fail
          refine (HRIGHT.out _ (HQ0.out.trans HE0.out)).mono ?_; rintro e w5 ⟨rfl, hq5⟩
          have HF := Lib.hid ((HQ0.out.trans HE0.out).trans hq5)
          have HF0 := Lib.hid (HE0.out.trans hq5)
          have HF1 := Lib.hid (HE1.out.trans hq5)
          clear hq5
          clear b0 b1 b2 b3 b4 b5 b6 b7 b8 s0 s1 s2 s3 s4
          obtain ⟨b0, b1, b2, b3, b4, b5, b6, b7, b8⟩ := cells9_block (h := ⟨k, nm, n, tk, tn, tp0, fr, en⟩) (HB0.out _ HF0.out)
          obtain ⟨s0, s1, s2, s3, s4⟩ := cells5 (HSB.out _ HF1.out)
          cases rt
          · change Hid (res = (false && (false && L.isEmpty) && decide (0 ≤ n) && decide (n ≤ tp) && decide (le ≤ (l2 : Int)) && decide ((l2 : Int) ≤ mo))) at HRES
            go_upto_region 11 with fail
            go_wp2_with fail
            all_goals first
            | (exfalso; omega)
            | (go_ret; exact ⟨by rw [HRES.out]; simp <;> omega, HF.out⟩)
          · change Hid (res = (false && (true && L.isEmpty) && decide (0 ≤ n) && decide (n ≤ tp) && decide (le ≤ (l2 : Int)) && decide ((l2 : Int) ≤ mo))) at HRES
            obtain ⟨W6, hW6⟩ : ∃ W6, W6 = w5.alloc (.cells #[.int .i64 tk, .int .i64 tn, .slice o1 l1 c1] 24) := ⟨_, rfl⟩
            obtain ⟨vb, hvb⟩ : ∃ vb, vb = w5.heap.size := ⟨_, rfl⟩
            have hb6 : W6.heap[vb]? = some (.cells #[.int .i64 tk, .int .i64 tn, .slice o1 l1 c1] 24 (0, 0)) := by rw [hW6, hvb]; exact heap_alloc_new _ _
            have HQ6 : Hid (Quiet0 w5 W6) := by rw [hW6]; exact Quiet0.alloc _ _
            have HVC := Lib.hid (HVARS.out W6 vb (HF.out.trans HQ6.out) hb6)
            rw [hW6, hvb] at HVC
            clear hb6 hW6 hvb HQ6
            go_wp2_with fail
            refine HVC.out.mono ?_; rintro e w7 ⟨va, vc, rfl, hq7⟩
            replace HF := Lib.hid ((HF.out.trans (Quiet0.alloc _ _)).trans hq7)
            have HG0 := Lib.hid ((HF0.out.trans (Quiet0.alloc _ _)).trans hq7)
            have HG1 := Lib.hid ((HF1.out.trans (Quiet0.alloc _ _)).trans hq7)
            clear hq7
            clear b0 b1 b2 b3 b4 b5 b6 b7 b8 s0 s1 s2 s3 s4
            obtain ⟨b0, b1, b2, b3, b4, b5, b6, b7, b8⟩ := cells9_block (h := ⟨k, nm, n, tk, tn, tp0, fr, en⟩) (HB0.out _ HG0.out)
            obtain ⟨s0, s1, s2, s3, s4⟩ := cells5 (HSB.out _ HG1.out)
            cases L
            · change Hid (res = (false && true && decide (0 ≤ n) && decide (n ≤ tp) && decide (le ≤ (l2 : Int)) && decide ((l2 : Int) ≤ mo))) at HRES
              have hl0 : ((([] : List Int).length : Nat) : Int) = 0 := rfl
              go_upto_region 11 with fail
              go_wp2_with fail
              all_goals first
              | (exfalso; omega)
              | (go_ret; exact ⟨by rw [HRES.out]; simp <;> omega, HF.out⟩)
            · rename_i x0 r0
              change Hid (res = (false && false && decide (0 ≤ n) && decide (n ≤ tp) && decide (le ≤ (l2 : Int)) && decide ((l2 : Int) ≤ mo))) at HRES
              have hl0 : ¬ (((x0 :: r0).length : Nat) : Int) = 0 := by simp; omega
              generalize (((x0 :: r0).length : Nat)) = ln at *
              go_upto_region 11 with fail
              go_wp2_with fail
              all_goals first
              | (exfalso; omega)
              | (go_ret; exact ⟨by rw [HRES.out]; simp <;> omega, HF.out⟩)
      · have e2 : nm.toList = [] := by simpa using hbn
        have e3 : nm.toList.isEmpty = true := hbn
        rw [hbn] at HRES
        clear hbn
        have HX1 := Lib.hid (Quiet0.refl wx)
        cases st
        · go_wp2_with fail
          refine (HSAME.out _ (HQ0.out.trans HQX.out)).mono ?_; rintro e w5 ⟨rfl, hq5⟩
          have HF := Lib.hid ((HQ0.out.trans HQX.out).trans hq5)
          have HF0 := Lib.hid (HQX.out.trans hq5)
          have HF1 := Lib.hid (HX1.out.trans hq5)
          clear hq5
          clear b0 b1 b2 b3 b4 b5 b6 b7 b8 s0 s1 s2 s3 s4
          obtain ⟨b0, b1, b2, b3, b4, b5, b6, b7, b8⟩ := cells9_block (h := ⟨k, nm, n, tk, tn, tp0, fr, en⟩) (HB0.out _ HF0.out)
          obtain ⟨s0, s1, s2, s3, s4⟩ := cells5 (HSB.out _ HF1.out)
          change Hid (res = (true && sm && decide (0 ≤ n) && decide (n ≤ tp) && decide (le ≤ (l2 : Int)) && decide ((l2 : Int) ≤ mo))) at HRES
          generalize sm = bt at *
          go_upto_region 11 with fail
          cases bt
          · go_wp2_with fail
            all_goals first
            | (exfalso; omega)
            | (go_ret; exact ⟨by rw [HRES.out]; simp <;> omega, HF.out⟩)
          · by_cases g1 : 0 ≤ n
            · by_cases g2 : n ≤ tp
              · by_cases g3 : le ≤ (l2 : Int)
                · by_cases g4 : (l2 : Int) ≤ mo
                  · go_wp2_with fail
                    all_goals first
                    | (exfalso; omega)
                    | (go_ret; exact ⟨by rw [HRES.out]; simp [g1, g2, g3, g4] <;> omega, HF.out⟩)
                  · have g4' : mo < (l2 : Int) := by omega
                    go_wp2_with fail
                    all_goals first
                    | (exfalso; omega)
                    | (go_ret; exact ⟨by rw [HRES.out]; simp [g1, g2, g3, g4] <;> omega, HF.out⟩)
                · have g3' : (l2 : Int) < le := by omega
                  go_wp2_with fail
                  all_goals first
                  | (exfalso; omega)
                  | (go_ret; exact ⟨by rw [HRES.out]; simp <;> omega, HF.out⟩)
              · have g2' : tp < n := by omega
                go_wp2_with fail
                all_goals first
                | (exfalso; omega)
                | (go_ret; exact ⟨by rw [HRES.out]; simp <;> omega, HF.out⟩)
            · have g1' : n < 0 := by omega
              go_wp2_with fail
              all_goals first
              | (exfalso; omega)
              | (go_ret; exact ⟨by rw [HRES.out]; simp <;> omega, HF.out⟩)
        · go_wp2_with fail
          refine (HSAME.out _ (HQ0.out.trans HQX.out)).mono ?_; rintro e w3 ⟨rfl, hq3⟩
          have HE0 := Lib.hid (HQX.out.trans hq3)
          have HE1 := Lib.hid (HX1.out.trans hq3)
          clear hq3 b0 b1 b2 b3 b4 b5 b6 b7 b8 s0 s1 s2 s3 s4
          obtain ⟨b0, b1, b2, b3, b4, b5, b6, b7, b8⟩ := cells9_block (h := ⟨k, nm, n, tk, tn, tp0, fr, en⟩) (HB0.out _ HE0.out)
          obtain ⟨s0, s1, s2, s3, s4⟩ := cells5 (HSB.out _ HE1.out)
          go_wp2_with fail
          refine (HRIGHT.out _ (HQ0.out.trans HE0.out)).mono ?_; rintro e w5 ⟨rfl, hq5⟩
          have HF := Lib.hid ((HQ0.out.trans HE0.out).trans hq5)
          have HF0 := Lib.hid (HE0.out.trans hq5)
          have HF1 := Lib.hid (HE1.out.trans hq5)
          clear hq5
          clear b0 b1 b2 b3 b4 b5 b6 b7 b8 s0 s1 s2 s3 s4
          obtain ⟨b0, b1, b2, b3, b4, b5, b6, b7, b8⟩ := cells9_block (h := ⟨k, nm, n, tk, tn, tp0, fr, en⟩) (HB0.out _ HF0.out)
          obtain ⟨s0, s1, s2, s3, s4⟩ := cells5 (HSB.out _ HF1.out)
          cases rt
          · change Hid (res = (true && (false && L.isEmpty) && decide (0 ≤ n) && decide (n ≤ tp) && decide (le ≤ (l2 : Int)) && decide ((l2 : Int) ≤ mo))) at HRES
            go_upto_region 11 with fail
            go_wp2_with fail
            all_goals first
            | (exfalso; omega)
            | (go_ret; exact ⟨by rw [HRES.out]; simp <;> omega, HF.out⟩)
          · change Hid (res = (true && (true && L.isEmpty) && decide (0 ≤ n) && decide (n ≤ tp) && decide (le ≤ (l2 : Int)) && decide ((l2 : Int) ≤ mo))) at HRES
            obtain ⟨W6, hW6⟩ : ∃ W6, W6 = w5.alloc (.cells #[.int .i64 tk, .int .i64 tn, .slice o1 l1 c1] 24) := ⟨_, rfl⟩
            obtain ⟨vb, hvb⟩ : ∃ vb, vb = w5.heap.size := ⟨_, rfl⟩
            have hb6 : W6.heap[vb]? = some (.cells #[.int .i64 tk, .int .i64 tn, .slice o1 l1 c1] 24 (0, 0)) := by rw [hW6, hvb]; exact heap_alloc_new _ _
            have HQ6 : Hid (Quiet0 w5 W6) := by rw [hW6]; exact Quiet0.alloc _ _
            have HVC := Lib.hid (HVARS.out W6 vb (HF.out.trans HQ6.out) hb6)
            rw [hW6, hvb] at HVC
            clear hb6 hW6 hvb HQ6
            go_wp2_with fail
            refine HVC.out.mono ?_; rintro e w7 ⟨va, vc, rfl, hq7⟩
            replace HF := Lib.hid ((HF.out.trans (Quiet0.alloc _ _)).trans hq7)
            have HG0 := Lib.hid ((HF0.out.trans (Quiet0.alloc _ _)).trans hq7)
            have HG1 := Lib.hid ((HF1.out.trans (Quiet0.alloc _ _)).trans hq7)
            clear hq7
            clear b0 b1 b2 b3 b4 b5 b6 b7 b8 s0 s1 s2 s3 s4
            obtain ⟨b0, b1, b2, b3, b4, b5, b6, b7, b8⟩ := cells9_block (h := ⟨k, nm, n, tk, tn, tp0, fr, en⟩) (HB0.out _ HG0.out)
            obtain ⟨s0, s1, s2, s3, s4⟩ := cells5 (HSB.out _ HG1.out)
            cases L
            · change Hid (res = (true && true && decide (0 ≤ n) && decide (n ≤ tp) && decide (le ≤ (l2 : Int)) && decide ((l2 : Int) ≤ mo))) at HRES
              have hl0 : ((([] : List Int).length : Nat) : Int) = 0 := rfl
              go_upto_region 11 with fail
              by_cases g1 : 0 ≤ n
              · by_cases g2 : n ≤ tp
                · by_cases g3 : le ≤ (l2 : Int)
                  · by_cases g4 : (l2 : Int) ≤ mo
                    · go_wp2_with fail
                      all_goals first
                      | (exfalso; omega)
                      | (go_ret; exact ⟨by rw [HRES.out]; simp [g1, g2, g3, g4] <;> omega, HF.out⟩)
                    · have g4' : mo < (l2 : Int) := by omega
                      go_wp2_with fail
                      all_goals first
                      | (exfalso; omega)
                      | (go_ret; exact ⟨by rw [HRES.out]; simp [g1, g2, g3, g4] <;> omega, HF.out⟩)
                  · have g3' : (l2 : Int) < le := by omega
                    go_wp2_with fail
                    all_goals first
                    | (exfalso; omega)
                    | (go_ret; exact ⟨by rw [HRES.out]; simp <;> omega, HF.out⟩)
                · have g2' : tp < n := by omega
                  go_wp2_with fail
                  all_goals first
                  | (exfalso; omega)
                  | (go_ret; exact ⟨by rw [HRES.out]; simp <;> omega, HF.out⟩)
              · have g1' : n < 0 := by omega
                go_wp2_with fail
                all_goals first
                | (exfalso; omega)
                | (go_ret; exact ⟨by rw [HRES.out]; simp <;> omega, HF.out⟩)
            · rename_i x0 r0
              change Hid (res = (true && false && decide (0 ≤ n) && decide (n ≤ tp) && decide (le ≤ (l2 : Int)) && decide ((l2 : Int) ≤ mo))) at HRES
              have hl0 : ¬ (((x0 :: r0).length : Nat) : Int) = 0 := by simp; omega
              generalize (((x0 :: r0).length : Nat)) = ln at *
              go_upto_region 11 with fail
              go_wp2_with fail
              all_goals first
              | (exfalso; omega)
              | (go_ret; exact ⟨by rw [HRES.out]; simp <;> omega, HF.out⟩)
    · go_wp2_with fail
      refine (HNAME.out _ (HQ0.out.trans HQX.out)).mono ?_; rintro e w4 ⟨rfl, hq4⟩
      have HX0 := Lib.hid (HQX.out.trans hq4)
      have HX1 := Lib.hid hq4
      clear hq4
      clear b0 b1 b2 b3 b4 b5 b6 b7 b8 s0 s1 s2 s3 s4
      obtain ⟨b0, b1, b2, b3, b4, b5, b6, b7, b8⟩ := cells9_block (h := ⟨k, nm, n, tk, tn, tp0, fr, en⟩) (HB0.out _ HX0.out)
      obtain ⟨s0, s1, s2, s3, s4⟩ := cells5 (HSB.out _ HX1.out)
      generalize Lx.nameB nm.data.toList = bn at *
      cases st
      · go_wp2_with fail
        refine (HSAME.out _ (HQ0.out.trans HX0.out)).mono ?_; rintro e w5 ⟨rfl, hq5⟩
        have HF := Lib.hid ((HQ0.out.trans HX0.out).trans hq5)
        have HF0 := Lib.hid (HX0.out.trans hq5)
        have HF1 := Lib.hid (HX1.out.trans hq5)
        clear hq5
        clear b0 b1 b2 b3 b4 b5 b6 b7 b8 s0 s1 s2 s3 s4
        obtain ⟨b0, b1, b2, b3, b4, b5, b6, b7, b8⟩ := cells9_block (h := ⟨k, nm, n, tk, tn, tp0, fr, en⟩) (HB0.out _ HF0.out)
        obtain ⟨s0, s1, s2, s3, s4⟩ := cells5 (HSB.out _ HF1.out)
        change Hid (res = (bn && sm && decide (0 ≤ n) && decide (n ≤ tp) && decide (le ≤ (l2 : Int)) && decide ((l2 : Int) ≤ mo))) at HRES
        generalize sm = bt at *
        go_upto_region 11 with fail
        cases bn
        · go_wp2_with fail
          all_goals first
          | (exfalso; omega)
          | (go_ret; exact ⟨by rw [HRES.out]; simp <;> omega, HF.out⟩)
        · cases bt
          · go_wp2_with fail
            all_goals first
            | (exfalso; omega)
            | (go_ret; exact ⟨by rw [HRES.out]; simp <;> omega, HF.out⟩)
          · by_cases g1 : 0 ≤ n
            · by_cases g2 : n ≤ tp
              · by_cases g3 : le ≤ (l2 : Int)
                · by_cases g4 : (l2 : Int) ≤ mo
                  · go_wp2_with fail
                    all_goals first
                    | (exfalso; omega)
                    | (go_ret; exact ⟨by rw [HRES.out]; simp [g1, g2, g3, g4] <;> omega, HF.out⟩)
                  · have g4' : mo < (l2 : Int) := by omega
                    go_wp2_with fail
                    all_goals first
                    | (exfalso; omega)
                    | (go_ret; exact ⟨by rw [HRES.out]; simp [g1, g2, g3, g4] <;> omega, HF.out⟩)
                · have g3' : (l2 : Int) < le := by omega
                  go_wp2_with fail
                  all_goals first
                  | (exfalso; omega)
                  | (go_ret; exact ⟨by rw [HRES.out]; simp <;> omega, HF.out⟩)
              · have g2' : tp < n := by omega
                go_wp2_with fail
                all_goals first
                | (exfalso; omega)
                | (go_ret; exact ⟨by rw [HRES.out]; simp <;> omega, HF.out⟩)
            · have g1' : n < 0 := by omega
              go_wp2_with fail
              all_goals first
              | (exfalso; omega)
              | (go_ret; exact ⟨by rw [HRES.out]; simp <;> omega, HF.out⟩)
      · go_wp2_with fail
        refine (HSAME.out _ (HQ0.out.trans HX0.out)).mono ?_; rintro e w3 ⟨rfl, hq3⟩
        have HE0 := Lib.hid (HX0.out.trans hq3)
        have HE1 := Lib.hid (HX1.out.trans hq3)
        clear hq3 b0 b1 b2 b3 b4 b5 b6 b7 b8 s0 s1 s2 s3 s4
        obtain ⟨b0, b1, b2, b3, b4, b5, b6, b7, b8⟩ := cells9_block (h := ⟨k, nm, n, tk, tn, tp0, fr, en⟩) (HB0.out _ HE0.out)
        obtain ⟨s0, s1, s2, s3, s4⟩ := cells5 (HSB.out _ HE1.out)
        go_wp2_with fail
        refine (HRIGHT.out _ (HQ0.out.trans HE0.out)).mono ?_; rintro e w5 ⟨rfl, hq5⟩
        have HF := Lib.hid ((HQ0.out.trans HE0.out).trans hq5)
        have HF0 := Lib.hid (HE0.out.trans hq5)
        have HF1 := Lib.hid (HE1.out.trans hq5)
        clear hq5
        clear b0 b1 b2 b3 b4 b5 b6 b7 b8 s0 s1 s2 s3 s4
        obtain ⟨b0, b1, b2, b3, b4, b5, b6, b7, b8⟩ := cells9_block (h := ⟨k, nm, n, tk, tn, tp0, fr, en⟩) (HB0.out _ HF0.out)
        obtain ⟨s0, s1, s2, s3, s4⟩ := cells5 (HSB.out _ HF1.out)
        cases rt
        · change Hid (res = (bn && (false && L.isEmpty) && decide (0 ≤ n) && decide (n ≤ tp) && decide (le ≤ (l2 : Int)) && decide ((l2 : Int) ≤ mo))) at HRES
          go_upto_region 11 with fail
          cases bn
          · go_wp2_with fail
            all_goals first
            | (exfalso; omega)
            | (go_ret; exact ⟨by rw [HRES.out]; simp <;> omega, HF.out⟩)
          · go_wp2_with fail
            all_goals first
            | (exfalso; omega)
            | (go_ret; exact ⟨by rw [HRES.out]; simp <;> omega, HF.out⟩)
        · change Hid (res = (bn && (true && L.isEmpty) && decide (0 ≤ n) && decide (n ≤ tp) && decide (le ≤ (l2 : Int)) && decide ((l2 : Int) ≤ mo))) at HRES
          obtain ⟨W6, hW6⟩ : ∃ W6, W6 = w5.alloc (.cells #[.int .i64 tk, .int .i64 tn, .slice o1 l1 c1] 24) := ⟨_, rfl⟩
          obtain ⟨vb, hvb⟩ : ∃ vb, vb = w5.heap.size := ⟨_, rfl⟩
          have hb6 : W6.heap[vb]? = some (.cells #[.int .i64 tk, .int .i64 tn, .slice o1 l1 c1] 24 (0, 0)) := by rw [hW6, hvb]; exact heap_alloc_new _ _
          have HQ6 : Hid (Quiet0 w5 W6) := by rw [hW6]; exact Quiet0.alloc _ _
          have HVC := Lib.hid (HVARS.out W6 vb (HF.out.trans HQ6.out) hb6)
          rw [hW6, hvb] at HVC
          clear hb6 hW6 hvb HQ6
          go_wp2_with fail
          refine HVC.out.mono ?_; rintro e w7 ⟨va, vc, rfl, hq7⟩
          replace HF := Lib.hid ((HF.out.trans (Quiet0.alloc _ _)).trans hq7)
          have HG0 := Lib.hid ((HF0.out.trans (Quiet0.alloc _ _)).trans hq7)
          have HG1 := Lib.hid ((HF1.out.trans (Quiet0.alloc _ _)).trans hq7)
          clear hq7
          clear b0 b1 b2 b3 b4 b5 b6 b7 b8 s0 s1 s2 s3 s4
          obtain ⟨b0, b1, b2, b3, b4, b5, b6, b7, b8⟩ := cells9_block (h := ⟨k, nm, n, tk, tn, tp0, fr, en⟩) (HB0.out _ HG0.out)
          obtain ⟨s0, s1, s2, s3, s4⟩ := cells5 (HSB.out _ HG1.out)
          cases L
          · change Hid (res = (bn && true && decide (0 ≤ n) && decide (n ≤ tp) && decide (le ≤ (l2 : Int)) && decide ((l2 : Int) ≤ mo))) at HRES
            have hl0 : ((([] : List Int).length : Nat) : Int) = 0 := rfl
            go_upto_region 11 with fail
            cases bn
            · go_wp2_with fail
              all_goals first
              | (exfalso; omega)
              | (go_ret; exact ⟨by rw [HRES.out]; simp <;> omega, HF.out⟩)
            · by_cases g1 : 0 ≤ n
              · by_cases g2 : n ≤ tp
                · by_cases g3 : le ≤ (l2 : Int)
                  · by_cases g4 : (l2 : Int) ≤ mo
                    · go_wp2_with fail
                      all_goals first
                      | (exfalso; omega)
                      | (go_ret; exact ⟨by rw [HRES.out]; simp [g1, g2, g3, g4] <;> omega, HF.out⟩)
                    · have g4' : mo < (l2 : Int) := by omega
                      go_wp2_with fail
                      all_goals first
                      | (exfalso; omega)
                      | (go_ret; exact ⟨by rw [HRES.out]; simp [g1, g2, g3, g4] <;> omega, HF.out⟩)
                  · have g3' : (l2 : Int) < le := by omega
                    go_wp2_with fail
                    all_goals first
                    | (exfalso; omega)
                    | (go_ret; exact ⟨by rw [HRES.out]; simp <;> omega, HF.out⟩)
                · have g2' : tp < n := by omega
                  go_wp2_with fail
                  all_goals first
                  | (exfalso; omega)
                  | (go_ret; exact ⟨by rw [HRES.out]; simp <;> omega, HF.out⟩)
              · have g1' : n < 0 := by omega
                go_wp2_with fail
                all_goals first
                | (exfalso; omega)
                | (go_ret; exact ⟨by rw [HRES.out]; simp <;> omega, HF.out⟩)
          · rename_i x0 r0
            change Hid (res = (bn && false && decide (0 ≤ n) && decide (n ≤ tp) && decide (le ≤ (l2 : Int)) && decide ((l2 : Int) ≤ mo))) at HRES
            have hl0 : ¬ (((x0 :: r0).length : Nat) : Int) = 0 := by simp; omega
            generalize (((x0 :: r0).length : Nat)) = ln at *
            go_upto_region 11 with fail
            cases bn
            · go_wp2_with fail
              all_goals first
              | (exfalso; omega)
              | (go_ret; exact ⟨by rw [HRES.out]; simp <;> omega, HF.out⟩)
            · go_wp2_with fail
              all_goals first
              | (exfalso; omega)
              | (go_ret; exact ⟨by rw [HRES.out]; simp <;> omega, HF.out⟩)
end Go.Proofs.YtggidhgifaekbaaDoor
end
