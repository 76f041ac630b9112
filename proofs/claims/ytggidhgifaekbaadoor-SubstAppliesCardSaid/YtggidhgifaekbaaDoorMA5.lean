/-
  Texts laid together (TyAux, TyCanon, TyRefVars0, TyRefVars, TyName, TyText, TyText4, TyText5): what each one proves, and its conditions, stands at its head.
-/
import Derived.Deep.DeepCutAuto
import Derived.Deep.RegionHeld3
import Derived.Deep.AppendLies
import Derived.Lib.SmallJoins
import Derived.Test.YtggidhgifaekbaaDoorShelf
import Derived.Test.YtggidhgifaekbaaDoorMA1
import Derived.Test.YtggidhgifaekbaaDoorMA2
import Derived.Test.YtggidhgifaekbaaDoorMA3
import Derived.Test.YtggidhgifaekbaaDoorMA4
/-
  Small facts for laws: rows of one and of two types, blocks, frames. No condition.
-/
namespace Go.Proofs.YtggidhgifaekbaaDoor
open Go.RowKit

theorem with_q {w0 W w3 : World} {G : Prop} (h : Quiet0 w0 W) (hq : Quiet0 W w3) (k : Quiet0 w0 w3 → G) : G := k (h.trans hq)
theorem slc1 {W : World} {b : Nat} {k n : Int} {o : Option Addr} {len cap : Nat} {ps : Fo} (hb : W.heap[b]? = some (.cells #[.int .i64 k, .int .i64 n, .slice o len cap] 24 (0, 0))) (h1 : Slc W o len ps) : Slc W (some ⟨b, 0, none⟩) 1 (.cons k n ps .nil) :=
  ⟨rfl, by decide, fun _ => ⟨_, 0, rfl, by rw [cell_of_row _ _ _ _ _ (0, 0) hb]; rfl, by rw [cell_of_row _ _ _ _ _ (0, 0) hb]; rfl, ⟨o, len, cap, by rw [cell_of_row _ _ _ _ _ (0, 0) hb]; rfl, h1.1, h1.2.1, h1.2.2⟩, trivial⟩⟩
theorem slc2 {W : World} {b : Nat} {k1 n1 : Int} {o1 : Option Addr} {l1 c1 : Nat} {p1 : Fo} {k2 n2 : Int} {o2 : Option Addr} {l2 c2 : Nat} {p2 : Fo}
    (hb : W.heap[b]? = some (.cells #[.int .i64 k1, .int .i64 n1, .slice o1 l1 c1, .int .i64 k2, .int .i64 n2, .slice o2 l2 c2] 24 (0, 0))) (h1 : Slc W o1 l1 p1) (h2 : Slc W o2 l2 p2) :
    Slc W (some ⟨b, 0, none⟩) 2 (.cons k1 n1 p1 (.cons k2 n2 p2 .nil)) :=
  ⟨rfl, by decide, fun _ => ⟨b, 0, rfl, by rw [cell_of_row _ _ _ _ _ (0, 0) hb]; rfl, by rw [cell_of_row _ _ _ _ _ (0, 0) hb]; rfl, ⟨o1, l1, c1, by rw [cell_of_row _ _ _ _ _ (0, 0) hb]; rfl, h1.1, h1.2.1, h1.2.2⟩,
    by rw [cell_of_row _ _ _ _ _ (0, 0) hb]; rfl, by rw [cell_of_row _ _ _ _ _ (0, 0) hb]; rfl, ⟨o2, l2, c2, by rw [cell_of_row _ _ _ _ _ (0, 0) hb]; rfl, h2.1, h2.2.1, h2.2.2⟩, trivial⟩⟩
theorem blk_new (w : World) (b : Nat) (cs : Array Value) (t : TypeId) (h : b = w.heap.size) : (w.alloc (.cells cs t)).heap[b]? = some (.cells cs t (0, 0)) := by
  subst h; exact heap_alloc_new w _
theorem blk_after {w W : World} {b : Nat} {o : Obj} (hq : Quiet0 w W) (h : w.heap[b]? = some o) : W.heap[b]? = some o := by
  have hlt : b < w.heap.size := (Array.getElem?_eq_some_iff.1 h).1
  rw [hq.block b hlt (fun h => h)]; exact h
theorem blk_drew {w : World} {b : Nat} {o : Obj} (h : w.heap[b]? = some o) : w.drew.heap[b]? = some o := h
/-- types.Arrow of two types that were laid in a row of their own -/
theorem arrow2 (W : World) (b : Nat) (k1 n1 : Int) (o1 : Option Addr) (l1 c1 : Nat) (p1 : Fo) (k2 n2 : Int) (o2 : Option Addr) (l2 c2 : Nat) (p2 : Fo)
    (hb : W.heap[b]? = some (.cells #[.int .i64 k1, .int .i64 n1, .slice o1 l1 c1, .int .i64 k2, .int .i64 n2, .slice o2 l2 c2] 24 (0, 0))) (h1 : Slc W o1 l1 p1) (h2 : Slc W o2 l2 p2) (hz : p1.size + p2.size ≤ 1000) :
    Calls Tryd.prog 20 #[.slice (some ⟨b, 0, none⟩) 2 2] W
      fun e w' => ∃ o' cap', e = .returned (.agg #[.int .i64 4, .int .i64 0, .slice o' 2 cap']) ∧ SlcIn (fun b => W.heap.size ≤ b) w' o' 2 (.cons k1 n1 p1 (.cons k2 n2 p2 .nil)) ∧ Quiet0 W w' := by
  refine (arrow_any _ _ _ 2 2 (slc2 hb h1 h2) (Nat.le_refl _) (by simp only [Fo.size]; omega)).mono ?_
  rintro e w' ⟨o', len', cap', rfl, hs', hq⟩
  have hl : len' = 2 := hs'.1
  subst hl
  exact ⟨o', cap', rfl, hs', hq⟩
theorem with_fr {w0 W w3 : World} {B : Nat} {G : Prop} (h : Fr (fun k => B ≤ k) w0 W) (hq : Quiet0 W w3) (k : Fr (fun k => B ≤ k) w0 w3 → w0.heap.size ≤ w3.heap.size → G) : G :=
  k (h.trans (hq.mono (fun _ _ h => h.elim))) (h.trans (hq.mono (fun _ _ h => h.elim))).size
theorem box_use {w : World} {b : Nat} {a0 a1 a2 : Value} {t : TypeId} {G : Prop} (h : w.heap[b]? = some (.cells #[a0, a1, a2] t (0, 0)))
    (k : w.cell? ⟨b, 0, none⟩ = some a0 → w.cell? ⟨b, 1, none⟩ = some a1 → w.cell? ⟨b, 2, none⟩ = some a2 → w.frozen? ⟨b, 0, none⟩ = false → w.frozen? ⟨b, 1, none⟩ = false → w.frozen? ⟨b, 2, none⟩ = false → w.heap[b]? = some (.cells #[a0, a1, a2] t (0, 0)) → G) : G := by
  obtain ⟨z0, z1, z2, y0, y1, y2⟩ := box_cells3 h
  exact k z0 z1 z2 y0 y1 y2 h
theorem put_end {W0 w5 : World} {d : Nat} {a0 a1 a2 : Value} {o5 : Option Addr} {cp5 : Nat} {PS : Fo} {R : Nat → Prop}
    (hz : w5.heap[d]? = some (.cells #[a0, a1, a2] 24 (0, 0))) (hs : SlcIn R w5 o5 2 PS) (hd : ∀ k, R k → k ≠ d) (hf : Fr (fun k => W0.heap.size ≤ k) W0 w5) (hdd : W0.heap.size ≤ d) :
    ∃ d' o cp, Value.pointer (some ⟨d, 0, none⟩) = Value.pointer (some ⟨d', 0, none⟩) ∧ (put3 w5 d (.int .i64 4) (.int .i64 0) (.slice o5 2 cp5)).heap[d']? = some (.cells #[.int .i64 4, .int .i64 0, .slice o 2 cp] 24 (0, 0)) ∧ Slc (put3 w5 d (.int .i64 4) (.int .i64 0) (.slice o5 2 cp5)) o 2 PS ∧ Quiet0 W0 (put3 w5 d (.int .i64 4) (.int .i64 0) (.slice o5 2 cp5)) := by
  refine ⟨d, o5, cp5, rfl, box_set2 (box_set1 (box_set0 hz)), (hs.fr (T := R) (put3_fr w5 d _ _ _) (fun k _ hk => ⟨hk, hd k hk⟩)).slc, ?_⟩
  exact Fr.trans' (hf.mono (fun k hk h => by omega)) (put3_fr w5 d _ _ _) (fun i hi h => by omega)
end Go.Proofs.YtggidhgifaekbaaDoor
/-
  types.Canon and Shift. Conditions: the type lies in memory as told; its numbers are in range; it is small.
-/
namespace Go.Proofs.YtggidhgifaekbaaDoor
open Go.RowKit Go.Maps

theorem vars_len : ∀ (f : Fo) (l : List Int), (Fo.vars l f).length ≤ l.length + f.size
  | .nil, l => by simp [Fo.vars, Fo.size]
  | .cons k n ps r, l => by
    rw [vars_cons]
    have h1 := vars_len r (Fo.vars (varStep l k n ps) ps)
    have h2 := vars_len ps (varStep l k n ps)
    have h3 : (varStep l k n ps).length ≤ l.length + 1 := by unfold varStep; split <;> simp
    simp only [Fo.size]; omega
theorem vars_all {G : Int → Prop} : ∀ (f : Fo) (l : List Int), (∀ v ∈ l, G v) → allF G f → ∀ v ∈ Fo.vars l f, G v
  | .nil, l, hl, _ => hl
  | .cons k n ps r, l, hl, hf => by
    rw [vars_cons]
    refine vars_all r _ (vars_all ps _ ?_ hf.2.1) hf.2.2
    unfold varStep
    split
    · intro v hv
      rcases List.mem_append.1 hv with h | h
      · exact hl v h
      · have : v = n := by simpa using h
        subst this; exact hf.1
    · exact hl
theorem IntRow.at {B : Nat} {w : World} {vo : Value} {l : List Int} (h : IntRow B w vo l) : ∃ a c, vo = .slice a l.length c ∧ l.length ≤ c ∧ (∀ g, (Value.slice a l.length c).ownBlock = some g → B ≤ g) ∧ w.ownsRow 0 3 1 (.slice a l.length c) l.length (ints l) := by
  obtain ⟨h1, h2⟩ := h
  have h1' := h1
  rcases h1.2 with ⟨rfl, h0⟩ | ⟨g, cap, cur, rfl, _, _, hc, _⟩
  · exact ⟨none, 0, by rw [h0], by omega, by rw [h0]; exact h2, by rw [h0]; rw [h0] at h1'; exact h1'⟩
  · exact ⟨some ⟨g, 0, none⟩, cap, rfl, by omega, h2, h1'⟩
theorem row_int {w : World} {a : Option Addr} {n c : Nat} {l : List Int} (h : w.ownsRow 0 3 1 (.slice a n c) l.length (ints l)) {i : Nat} {x : Int} (hx : l[i]? = some x) : ∃ g, a = some ⟨g, 0, none⟩ ∧ w.cell? ⟨g, i, none⟩ = some (.int .i64 x) := by
  rcases h.2 with ⟨he, h0⟩ | ⟨g, cap, cur, he, _⟩
  · rw [List.length_eq_zero_iff.1 h0] at hx; simp at hx
  · injection he with h1 h2 h3
    subst h1
    have := h.cells (g := g) rfl i (.int .i64 x) (by unfold ints; rw [List.getElem?_map, hx]; rfl)
    exact ⟨g, rfl, by simpa [Addr.add_lit] using this⟩
/-- each one's place -/
def placeN (l : List Int) : Nat → Int → Int
  | 0, _ => 0
  | i + 1, v => if l[i]? = some v then i else placeN l i v
def canonP (k n : Int) (ps : Fo) : Int → Int := placeN (Fo.vars [] (.cons k n ps .nil)) (Fo.vars [] (.cons k n ps .nil)).length
theorem eg_canon : ∀ args w, (callFunc 80 args).run Tryd.prog w = .ok (.enter 80 args) w := enters_of Tryd.func80 (by kernel_rfl) rfl
theorem canon1_any (w0 : World) (cs bm m : Nat) (p : Int → Int) (h1 : Box1 w0 cs (.map (some bm)) 84) (h2 : MapOf w0 bm m p) : DoK 80 #[.pointer (some ⟨cs, 0, none⟩)] w0 wfI p := by
  intro n W hn hq
  have c1 := cell_of_one (h1.fr hq (fun h => h))
  have hlk := (h2.stay hq).look hn
  clear h1 h2
  go_enter Tryd.func80, Tryd.ntmps80
  go_wp2_with fail
  go_ret
  exact ⟨rfl, Quiet0.refl _⟩
theorem newN_eq (p : Int → Int) (k n : Int) : newN p k n = if k == 1 then p n else n := rfl
set_option maxHeartbeats 4000000 in
set_option maxRecDepth 100000 in
theorem canon_any (k n : Int) (ps : Fo) (w : World) (o : Option Addr) (len cap : Nat) (hs : Slc w o len ps) (hn : wfI n) (hw : wfF ps) (hsz : ps.size ≤ 100000) :
    Calls Tryd.prog 35 #[tyv k n o len cap] w fun e w' => ∃ o' cap', e = .returned (tyv k (newN (canonP k n ps) k n) o' len cap') ∧ SlcIn (fun b => w.heap.size ≤ b) w' o' len (ps.change (canonP k n ps)) ∧ Quiet0 w w' := by
  have HS := Lib.hid hs
  have HN := Lib.hid hn
  have HW := Lib.hid hw
  have HWF : Hid (wfF (.cons k n ps .nil)) := ⟨hn, hw, trivial⟩
  have HSZ : Hid ((Fo.cons k n ps .nil).size ≤ 1000000) := by show _ ≤ _; simp only [Fo.size]; omega
  have hll : (Fo.vars [] (.cons k n ps .nil)).length ≤ 100001 := by have := vars_len (.cons k n ps .nil) []; simp only [Fo.size, List.length_nil] at this; omega
  have HWL : Hid (∀ v ∈ Fo.vars [] (.cons k n ps .nil), wfI v) := vars_all (G := wfI) _ [] (fun v h => by cases h) HWF.out
  have hmm := @run_makeMap Tryd.prog
  unfold canonP
  obtain ⟨W1, hW1⟩ : ∃ W1, W1 = ((((w.alloc (.cells #[.int .i64 k, .int .i64 n, .slice o len cap] 24)).alloc (.cells #[.int .i64 0, .int .i64 0, .slice none 0 0] 24)).alloc (.map #[] 0)).alloc (.cells #[.map (some (w.heap.size + 1 + 1))] 84)).alloc (.cells #[.int .i64 k, .int .i64 n, .slice o len cap] 24) := ⟨_, rfl⟩
  have HQ1 : Hid (Quiet0 w W1) := by rw [hW1]; exact ((((Quiet0.alloc _ _).trans (Quiet0.alloc _ _)).trans (Quiet0.alloc _ _)).trans (Quiet0.alloc _ _)).trans (Quiet0.alloc _ _)
  have s1 : (w.alloc (.cells #[.int .i64 k, .int .i64 n, .slice o len cap] 24)).heap.size = w.heap.size + 1 := by simp
  have s2 : ((w.alloc (.cells #[.int .i64 k, .int .i64 n, .slice o len cap] 24)).alloc (.cells #[.int .i64 0, .int .i64 0, .slice none 0 0] 24)).heap.size = w.heap.size + 1 + 1 := by simp
  have s3 : (((w.alloc (.cells #[.int .i64 k, .int .i64 n, .slice o len cap] 24)).alloc (.cells #[.int .i64 0, .int .i64 0, .slice none 0 0] 24)).alloc (.map #[] 0)).heap.size = w.heap.size + 1 + 1 + 1 := by simp
  have s4 : ((((w.alloc (.cells #[.int .i64 k, .int .i64 n, .slice o len cap] 24)).alloc (.cells #[.int .i64 0, .int .i64 0, .slice none 0 0] 24)).alloc (.map #[] 0)).alloc (.cells #[.map (some (w.heap.size + 1 + 1))] 84)).heap.size = w.heap.size + 1 + 1 + 1 + 1 := by simp
  have HB0 : Hid (W1.heap[w.heap.size]? = some (.cells #[.int .i64 k, .int .i64 n, .slice o len cap] 24 (0, 0))) := by
    rw [hW1]; exact box_after (heap_alloc_new w _) ((((Quiet0.alloc _ _).trans (Quiet0.alloc _ _)).trans (Quiet0.alloc _ _)).trans (Quiet0.alloc _ _))
  have HB1 : Hid (W1.heap[w.heap.size + 1]? = some (.cells #[.int .i64 0, .int .i64 0, .slice none 0 0] 24 (0, 0))) := by
    rw [hW1, ← s1]; exact box_after (heap_alloc_new _ _) (((Quiet0.alloc _ _).trans (Quiet0.alloc _ _)).trans (Quiet0.alloc _ _))
  have HM1 : Hid (MapOf W1 (w.heap.size + 1 + 1) 0 (fun _ => 0)) := by
    rw [hW1, ← s2]; exact (MapOf.made _).stay ((Quiet0.alloc _ _).trans (Quiet0.alloc _ _))
  have HC1 : Hid (Box1 W1 (w.heap.size + 1 + 1 + 1) (.map (some (w.heap.size + 1 + 1))) 84) := by
    rw [hW1, ← s3]
    have := (Box1.new (((w.alloc (.cells #[.int .i64 k, .int .i64 n, .slice o len cap] 24)).alloc (.cells #[.int .i64 0, .int .i64 0, .slice none 0 0] 24)).alloc (.map #[] 0)) (.map (some (w.heap.size + 1 + 1))) 84).alloc (.cells #[.int .i64 k, .int .i64 n, .slice o len cap] 24)
    rw [s3] at this ⊢
    exact this
  have HSL : Hid (Slc W1 (some ⟨w.heap.size + 1 + 1 + 1 + 1, 0, none⟩) 1 (.cons k n ps .nil)) := by
    have hb : W1.heap[w.heap.size + 1 + 1 + 1 + 1]? = some (.cells #[.int .i64 k, .int .i64 n, .slice o len cap] 24 (0, 0)) := by rw [hW1, ← s4]; exact heap_alloc_new _ _
    have h1 := HS.out.stay HQ1.out
    exact ⟨rfl, by decide, fun _ => ⟨_, 0, rfl, by rw [cell_of_row _ _ _ _ _ (0, 0) hb]; rfl, by rw [cell_of_row _ _ _ _ _ (0, 0) hb]; rfl, ⟨o, len, cap, by rw [cell_of_row _ _ _ _ _ (0, 0) hb]; rfl, h1.1, h1.2.1, h1.2.2⟩, trivial⟩⟩
  have hz1 : w.heap.size + 1 + 1 + 1 + 1 < W1.heap.size := by rw [hW1]; simp
  have HVA := Lib.hid (vars_any (.cons k n ps .nil) W1 _ 1 1 HSL.out HWF.out HSZ.out)
  generalize hL : Fo.vars [] (.cons k n ps .nil) = L at *
  obtain ⟨P, hP⟩ : ∃ P, P = placeN L L.length := ⟨_, rfl⟩
  rw [← hP]
  obtain ⟨n', hn'⟩ : ∃ n', n' = newN P k n := ⟨_, rfl⟩
  rw [← hn']
  have HP := Lib.hid hP
  have HN' := Lib.hid hn'
  clear hs hn hw hL s1 s2 s3 s4 hP hn'
  unfold tyv
  go_enter Tryd.func35, Tryd.ntmps35
  go_wp2_with fail
  rw [← hW1]
  generalize hB : w.heap.size = B at *
  clear hW1
  refine HVA.out.mono ?_; rintro e w2 ⟨vo, rfl, hrow, hq2⟩
  obtain ⟨a, c, rfl, hlc, hge, hown⟩ := hrow.at
  have HOWN := Lib.hid hown
  have HGE := Lib.hid hge
  have HQ2 := Lib.hid hq2
  clear hrow hown hge hq2
  go_wp2_with fail
  go_loopw [4, 5, 11] (fun _ _ t wr => ∃ i : Nat, t = .int .i64 i ∧ i ≤ L.length ∧ MapOf wr (B + 1 + 1) i (placeN L i) ∧ Fr (fun j => j = B + 1 + 1) w2 wr) (fun _ _ t _ => L.length - (intOf t).toNat)
  case atStart => exact ⟨0, rfl, Nat.zero_le _, (HM1.out.stay HQ2.out).cong (fun _ _ => rfl), Fr.refl _ _⟩
  case round =>
    obtain ⟨i, rfl, hi, hm, hf⟩ := hrel
    have HM := Lib.hid hm
    have HF := Lib.hid hf
    have hC := ((HC1.out.fr HQ2.out (fun h => h)).fr hf (fun h => by omega))
    have HCC := Lib.hid hC
    have c3 := cell_of_one hC
    clear hm hf hC
    by_cases hlt : i < L.length
    · have hlt' : (i : Int) < L.length := by omega
      obtain ⟨x, hx⟩ : ∃ x, L[i]? = some x := ⟨_, List.getElem?_eq_getElem hlt⟩
      obtain ⟨g, rfl, hc⟩ := row_int (ownsRow_fr HOWN.out HF.out (fun g hg h => by have := HGE.out g hg; have h' : g = B + 1 + 1 := h; omega)) hx
      have HX := Lib.hid hx
      have HWX := Lib.hid (HWL.out x (List.mem_of_getElem? hx))
      have HWI : Hid (wfI (i : Int)) := wfI_of (by omega) (by omega)
      clear hx
      go_wp2_with (at_mapUpdate; go_must (refine wpList_store _ rfl _ _ _ rfl rfl HM.out ?hn x i HWX.out HWI.out rfl rfl ?_))
      case hn => unfold maxLen; omega
      intro w3 hm3 hf3
      have HM3 : Hid (MapOf w3 (B + 1 + 1) (i + 1) (placeN L (i + 1))) := hm3.cong (fun v _ => by
        show _ = (if L[i]? = some v then (i : Int) else placeN L i v)
        rw [HX.out]
        by_cases h : v = x
        · rw [if_pos h, if_pos (by rw [h])]
        · rw [if_neg h, if_neg (fun hh => h (by injection hh with hh; exact hh.symm))])
      have HF3 := Lib.hid (HF.out.trans hf3)
      clear hm3 hf3
      go_wp2_with fail
      go_roundw
      case rel => exact ⟨i + 1, by go_num, by omega, HM3.out, HF3.out⟩
      case measure => simp [intOf]; omega
    · have hlt' : ¬ (i : Int) < L.length := by omega
      have hil : i = L.length := by omega
      subst hil
      have HFF : Hid (Fr (fun j => j = B + 1 + 1) W1 wr) := (HQ2.out.mono (fun _ _ h => h.elim)).trans HF.out
      have hb0 : wr.heap[B]? = some (.cells #[.int .i64 k, .int .i64 n, .slice o len cap] 24 (0, 0)) := by rw [HFF.out.block B (by omega) (fun h => by have h' : B = B + 1 + 1 := h; omega)]; exact HB0.out
      have hb1 : wr.heap[B + 1]? = some (.cells #[.int .i64 0, .int .i64 0, .slice none 0 0] 24 (0, 0)) := by rw [HFF.out.block (B + 1) (by omega) (fun h => by have h' : B + 1 = B + 1 + 1 := h; omega)]; exact HB1.out
      obtain ⟨a0, a1, a2, _, _, _⟩ := box_cells3 hb0
      have HSR : Hid (Slc wr o len ps) := (HS.out.lt.fr (T := fun j => j < w.heap.size) (Fr.trans' (HQ1.out.mono (fun _ _ h => h.elim)) HFF.out (fun i _ h => h)) (fun j _ hj => ⟨hj, fun h => by have h' : j = B + 1 + 1 := h; have h2 : j < w.heap.size := hj; omega⟩)).slc
      have HD := Lib.hid (change_any eg_canon (canon1_any wr (B + 1 + 1 + 1) (B + 1 + 1) L.length (placeN L L.length) HCC.out HM.out) k n ps wr o len cap (Quiet0.refl _) HSR.out (by omega) HN.out HW.out)
      have HBB1 := Lib.hid hb1
      rw [← HP.out, ← HN'.out] at HD
      unfold tyv at HD
      clear hb0 hb1
      go_wp2_with fail
      refine HD.out.mono ?_; rintro e w4 ⟨o2, cap2, rfl, hs4, hq4⟩
      have hbb := box_after HBB1.out hq4
      have HB4 := Lib.hid hbb
      obtain ⟨d0, d1, d2, y0, y1, y2⟩ := box_cells3 hbb
      have HS4 := Lib.hid hs4
      have HQ4 := Lib.hid hq4
      clear hs4 hq4 hbb a0 a1 a2
      go_wp2_with fail
      clear d0 d1 d2 y0 y1 y2
      have hf := put3_fr w4 (B + 1) (.int .i64 k) (.int .i64 n') (.slice o2 len cap2)
      obtain ⟨f0, f1, f2⟩ := put3_cells (a := .int .i64 k) (b := .int .i64 n') (c := .slice o2 len cap2) HB4.out
      change bodyPost _ _ _ _ _ (put3 w4 (B + 1) (.int .i64 k) (.int .i64 n') (.slice o2 len cap2))
      generalize put3 w4 (B + 1) (.int .i64 k) (.int .i64 n') (.slice o2 len cap2) = wf at *
      refine bodyPost_ret (by simp [results, Tryd.results35, go_sem, f0, f1, f2]; rfl) rfl ?_
      refine ⟨o2, cap2, rfl, HS4.out.fr hf ?_, ?_⟩
      · intro j _ hj
        have hj' : wr.heap.size ≤ j := hj
        have := HFF.out.size
        exact ⟨by omega, by omega⟩
      · exact Fr.trans' (Fr.trans' (Fr.trans' HQ1.out HFF.out (fun i hi h => by have h' : i = B + 1 + 1 := h; omega)) HQ4.out (fun _ _ h => h)) hf (fun i hi h => by have h' : i = B + 1 := h; omega)
end Go.Proofs.YtggidhgifaekbaaDoor
/-
  The reference's Vars: append of integers, where the order is drawn. Conditions: the rows lie in memory as told; they are short.
-/
namespace Go.Proofs.YtggidhgifaekbaaDoor
open Go.RowKit Go.Maps

/-- a slice's integers -/
def IntsV (w : World) (v : Value) (l : List Int) : Prop := ∃ a c, v = .slice a l.length c ∧ IntsAt w a l
theorem IntsV.stay {w w' : World} {v : Value} {l : List Int} (h : IntsV w v l) (hq : Quiet0 w w') : IntsV w' v l := by
  obtain ⟨a, c, rfl, h⟩ := h
  exact ⟨a, c, rfl, h.stay hq⟩
theorem ownsInts_v {w : World} {v : Value} {l : List Int} (h : w.ownsRow 0 3 1 v l.length (ints l)) : IntsV w v l := by
  obtain ⟨a, c, rfl, _, _, h'⟩ := IntRow.at (B := 0) ⟨h, fun _ _ => Nat.zero_le _⟩
  refine ⟨a, c, rfl, fun i x hx => ?_⟩
  obtain ⟨g, rfl, hc⟩ := row_int h' hx
  exact ⟨g, 0, rfl, by simpa using hc⟩
theorem own_empty {w : World} {b : Nat} (h : w.heap[b]? = some (.cells #[] 3 (0, 0))) : w.ownsRow 0 3 1 (.slice (some ⟨b, 0, none⟩) 0 0) ([] : List Int).length (ints []) := by
  refine ⟨rfl, .inr ⟨b, 0, #[], rfl, Nat.zero_le _, h, Nat.le_refl _, Nat.zero_le _, rfl, rfl⟩⟩
theorem run_append_nothing (w : World) (ty : TypeId) (v : Value) (n : Nat) (xs : List Value) (hown : w.ownsRow 0 3 1 v n xs) (hv : v ≠ .slice none 0 0) (o : Option Addr) (c : Nat) :
    (Builtin.append_ #[45, 45] ty #[v, .slice o 0 c]).run Tryd.prog w = .ok v w := by
  rcases hown.2 with ⟨rfl, _⟩ | ⟨g, cap, cur, rfl, _, hg, hc, hm, hs, _⟩
  · exact absurd rfl hv
  · obtain ⟨i0, hi, hz0, hz1, hz2⟩ := info_parts elemInt.info
    have hu := elemInt.under
    cases o <;> simp [Builtin.append_, run_underlying hu, sizeOf, typeInfo, hi, Builtin.lenOf, Builtin.firstCells, loadCells, loadCellsFrom, storeCells, hc]
end Go.Proofs.YtggidhgifaekbaaDoor
/-
  The reference's Vars. Conditions: the type and the row lie in memory as told; they are small.
-/
namespace Go.Proofs.YtggidhgifaekbaaDoor
open Go.RowKit Go.Maps

/-- append of integers that lie somewhere to a row of the call's own (not nil) -/
theorem step_ints {ops : Array Oper} {o : Oper} {a : Act} {K : Act → World → Prop} {Q : Exit → Act → World → Prop} {E : Prop} (W : World)
    (hg : o.guard = none) (s x : Operand) (hop : o.op = Op.call { callee := Callee.builtin Builtin.append, args := #[s, x], argTypes := #[45, 45] })
    (v : Value) (xs : List Int) (hs : a.eval s = v) (hown : W.ownsRow 0 3 1 v xs.length (ints xs)) (va : Option Addr) (ys : List Int) (m c : Nat) (hm : m = ys.length) (hx : a.eval x = .slice va m c) (hat : IntsAt W va ys) (hb : xs.length + ys.length ≤ 1000000) (hne : v ≠ .slice none 0 0)
    (hK : ∀ v' w', w'.ownsRow 0 3 1 v' (xs ++ ys).length (ints (xs ++ ys)) → Fr (fun k => v.ownBlock = some k) W w' → (∀ g, v'.ownBlock = some g → v.ownBlock = some g ∨ g = W.heap.size) → v' ≠ .slice none 0 0 → K (a.put o.dst v') w') :
    if Region.wanted o (yielded ops a.tmps) = true then Oper.wp Tryd.prog o a W K Q else E := by
  subst hm
  rw [if_pos (by unfold Region.wanted; rw [hg])]
  by_cases h0 : ys = []
  · subst h0
    have hr := run_append_nothing W o.type v _ _ hown hne va c
    unfold Oper.wp execOp
    simp only [hop, resolve, invoke, builtin, Sem.run_bind, Sem.run_pure, Result.andThen_ok, List.map_toArray, List.map_cons, List.map_nil, hs, hx, List.length_nil, hr]
    exact hK v W (by simpa using hown) (Fr.refl _ _) (fun g h => .inl h) hne
  · obtain ⟨y, r, rfl⟩ := List.exists_cons_of_ne_nil h0
    obtain ⟨b, off, rfl, _⟩ := hat 0 y rfl
    obtain ⟨i0, hi, hz0, hz1, hz2⟩ := info_parts elemInt.info
    refine wp_append_lies (P := Tryd.prog) W s x 45 hop 0 3 i0 (.int .i64 0) 1 8 elemInt.under hi hz0 hz1 hz2 (by decide) (by decide) v xs.length (ints xs) hs hown ⟨b, off, none⟩ (y :: r).length c (ints (y :: r)) hx (by simp [ints]) ?_ (by unfold ints; intro u hu; obtain ⟨z, _, rfl⟩ := List.mem_map.1 hu; rfl) (by simp) (by unfold maxLen; omega) (by omega) (Nat.zero_le _) _ rfl ?_
    · intro j u hj
      unfold ints at hj
      rw [List.getElem?_map] at hj
      cases hz : (y :: r)[j]? with
      | none => rw [hz] at hj; cases hj
      | some z =>
        rw [hz] at hj
        cases hj
        obtain ⟨b', off', he, hc⟩ := hat j z hz
        cases he
        simpa [Addr.add_lit] using hc
    · intro g cap w' ho hgr hg' _
      refine hK _ w' ?_ (Fr.grown hgr (fun k hk => hk)) ?_ (by simp)
      · rw [List.length_append]; unfold ints at *; rw [List.map_append]; exact ho
      · intro g2 h2
        simp [Value.ownBlock] at h2
        subst h2
        exact hg'
theorem ints_one {W : World} {b : Nat} {n : Int} (h : W.heap[b]? = some (.cells #[.int .i64 n] 3 (0, 0))) : IntsAt W (some ⟨b, 0, none⟩) [n] := by
  intro i x hx
  cases i with
  | zero =>
    simp at hx
    subst hx
    exact ⟨b, 0, rfl, by rw [cell_of_row _ _ _ _ _ (0, 0) h]; rfl⟩
  | succ i => simp at hx
theorem blk_fr {S : Nat → Prop} {w W : World} {b : Nat} {o : Obj} (hf : Fr S w W) (hb : ¬ S b) (h : w.heap[b]? = some o) : W.heap[b]? = some o := by
  rw [hf.block b (Array.getElem?_eq_some_iff.1 h).1 hb]; exact h
theorem with_fr2 {w0 W w3 : World} {S : Nat → Prop} {G : Prop} (h : Quiet0 w0 W) (hf : Fr S W w3) (hS : ∀ k, S k → w0.heap.size ≤ k) (k : Quiet0 w0 w3 → w0.heap.size ≤ w3.heap.size → G) : G :=
  have hq : Quiet0 w0 w3 := Fr.trans' h hf (fun i hi hs => by have := hS i hs; omega)
  k hq hq.size
end Go.Proofs.YtggidhgifaekbaaDoor
/-
  types' texts: bracket and Name. Conditions: a text is of a bounded length; the table of powers of ten holds what its initialiser lays.
-/
namespace Go.Proofs.YtggidhgifaekbaaDoor
open Go.RowKit

def brackL (b : Bool) (l : List UInt8) : List UInt8 := if b then 40 :: (l ++ [41]) else l
def tb (l : List UInt8) : ByteArray := ⟨l.toArray⟩
theorem tb_size (l : List UInt8) : (tb l).size = l.length := by simp [tb, ByteArray.size]
theorem tb_app (l m : List UInt8) : tb l ++ tb m = tb (l ++ m) := by
  apply ByteArray.ext
  simp [tb, ByteArray.data_append]
theorem bracket_any (b : Bool) (l : List UInt8) (hs : l.length ≤ 1000000000) (w : World) :
    Calls Tryd.prog 108 #[.bool b, .string (tb l)] w fun e w' => e = .returned (.string (tb (brackL b l))) ∧ w = w' := by
  have e1 : tb [40] ++ tb l ++ tb [41] = tb (brackL true l) := by rw [tb_app, tb_app]; rfl
  have e2 := tb_size l
  have e3 : (tb [40] ++ tb l).size = l.length + 1 := by rw [tb_app, tb_size]; simp
  have E1 := Lib.hid e1
  clear e1
  cases b
  · show Calls _ _ _ _ fun e w' => e = .returned (.string (tb l)) ∧ w = w'
    generalize tb l = s at *
    go_enter Tryd.func108, Tryd.ntmps108
    go_wp2_with fail
    go_ret
    exact ⟨rfl, rfl⟩
  · rw [← E1.out]
    generalize tb l = s at *
    have e4 : (⟨#[40]⟩ ++ s).size = l.length + 1 := e3
    clear E1 e3
    go_enter Tryd.func108, Tryd.ntmps108
    go_wp2_with fail
    go_ret
    exact ⟨rfl, rfl⟩
theorem encode_letter : ∀ k : Fin 26, Utf8.encode (97 + (k.val : Int)) = ⟨#[UInt8.ofNat (97 + k.val)]⟩ := by decide
/-- a variable's text -/
def nameL (n : Int) : List UInt8 := if 0 ≤ n ∧ n < 1073741824 then 39 :: UInt8.ofNat (97 + n.toNat % 26) :: (if n < 26 then [] else Lib.decDigits (n.toNat / 26)) else []
def Pow10 (w : World) : Prop := Lib.TabIs Tryd.prog w "internal/strconv.uint64pow10" .u64 Lib.pow10Tab
theorem name_no (n : Int) (h : ¬ (0 ≤ n ∧ n < 1073741824)) (w : World) : Calls Tryd.prog 107 #[.int .i64 n] w fun e w' => e = .returned (.string (tb (nameL n))) ∧ Quiet0 w w' := by
  have hk := Lib.hid (known_any n)
  have e1 : (decide ((0 : Int) ≤ n) && decide ((n : Int) < 1073741824)) = false := by simp; omega
  rw [e1] at hk
  have e2 : nameL n = [] := by unfold nameL; rw [if_neg h]
  rw [e2]
  go_enter Tryd.func107, Tryd.ntmps107
  go_wp2_with fail
  refine (hk.out _).mono ?_; rintro e w' ⟨rfl, rfl⟩
  go_wp2_with fail
  go_ret
  exact ⟨rfl, Quiet0.refl _⟩
theorem Fr.grow (S : Nat → Prop) (w : World) (os : Array Obj) : Fr S w (Go.Sort.grow w os) :=
  ⟨rfl, rfl, rfl, by simp [Go.Sort.grow], fun k hk _ => by simp [Go.Sort.grow, Array.getElem?_append_left hk]⟩
theorem name_walk (n r q : Int) (c : ByteArray) (h0 : 0 ≤ n) (h1 : n < 1073741824) (hm : n.tmod 26 = r) (hi0 : 0 ≤ r) (hi1 : r < 26) (hq : n.tdiv 26 = q) (hq0 : 0 ≤ q) (hq1 : q ≤ 100000000) (hc : Utf8.encode (97 + r) = c) (hcs : c.size = 1) (hd : (Lib.itoa q).length ≤ 1000000) (w : World) (ht : Pow10 w) :
    Calls Tryd.prog 107 #[.int .i64 n] w fun e w' => e = .returned (.string (if n < 26 then ⟨#[39]⟩ ++ c else ⟨#[39]⟩ ++ c ++ ⟨(Lib.itoa q).toArray⟩)) ∧ Quiet0 w w' := by
  have hk := Lib.hid (known_any n)
  have e1 : (decide ((0 : Int) ≤ n) && decide ((n : Int) < 1073741824)) = true := by simp; omega
  rw [e1] at hk
  clear e1
  have HT := Lib.hid ht
  clear ht
  by_cases hb : n < 26
  · have hb' : ¬ (26 : Int) ≤ n := by omega
    rw [if_pos hb]
    go_enter Tryd.func107, Tryd.ntmps107
    go_wp2_with fail
    refine (hk.out _).mono ?_; rintro e w' ⟨rfl, rfl⟩
    go_wp2_with fail
    go_ret
    exact ⟨rfl, Quiet0.refl _⟩
  · have hb' : (26 : Int) ≤ n := by omega
    rw [if_neg hb]
    have HI := Lib.hid (Tryd.strconv_Itoa q (by omega) (by omega))
    have hs2 : (⟨#[39]⟩ ++ c : ByteArray).size = 2 := by rw [ByteArray.size_append, hcs]; rfl
    have hs3 : (⟨(Lib.itoa q).toArray⟩ : ByteArray).size ≤ 1000000 := by simpa [ByteArray.size] using hd
    clear hd
    generalize (⟨(Lib.itoa q).toArray⟩ : ByteArray) = d at *
    go_enter Tryd.func107, Tryd.ntmps107
    go_wp2_with fail
    refine (hk.out _).mono ?_; rintro e w' ⟨rfl, rfl⟩
    go_wp2_with fail
    refine (HI.out _ HT.out).mono ?_; rintro e w' ⟨rfl, kk, os, rfl⟩
    go_wp2_with fail
    go_ret
    exact ⟨rfl, (Fr.drewN _ _ _).trans (Fr.grow _ _ _)⟩
theorem decDigits_len : ∀ (b m : Nat), m < 10 ^ b → (Lib.decDigits m).length ≤ b + 1
  | 0, m, h => by unfold Lib.decDigits; rw [dif_pos (by omega)]; simp
  | b + 1, m, h => by
    unfold Lib.decDigits
    by_cases hm : m < 10
    · rw [dif_pos hm]; simp
    · rw [dif_neg hm]
      have := decDigits_len b (m / 10) (by rw [Nat.pow_succ] at h; omega)
      simp; omega
theorem name_any (n : Int) (w : World) (ht : Pow10 w) : Calls Tryd.prog 107 #[.int .i64 n] w fun e w' => e = .returned (.string (tb (nameL n))) ∧ Quiet0 w w' := by
  by_cases h : 0 ≤ n ∧ n < 1073741824
  · obtain ⟨m, rfl⟩ := Int.eq_ofNat_of_zero_le h.1
    have hlen := decDigits_len 10 (m / 26) (by omega)
    have hit : Lib.itoa ((m / 26 : Nat) : Int) = Lib.decDigits (m / 26) := by unfold Lib.itoa; rw [if_neg (by omega)]; rfl
    refine (name_walk m ((m % 26 : Nat) : Int) ((m / 26 : Nat) : Int) ⟨#[UInt8.ofNat (97 + m % 26)]⟩ h.1 h.2 (by rw [Int.tmod_eq_emod_of_nonneg h.1]; rfl) (by omega) (by omega) (by rw [Int.tdiv_eq_ediv_of_nonneg h.1]; rfl) (by omega) (by omega) (encode_letter ⟨m % 26, by omega⟩) rfl (by rw [hit]; omega) w ht).mono ?_
    rintro e w' ⟨rfl, hq⟩
    refine ⟨?_, hq⟩
    suffices hs : (if (m : Int) < 26 then ⟨#[39]⟩ ++ ⟨#[UInt8.ofNat (97 + m % 26)]⟩ else ⟨#[39]⟩ ++ ⟨#[UInt8.ofNat (97 + m % 26)]⟩ ++ ⟨(Lib.itoa ((m / 26 : Nat) : Int)).toArray⟩ : ByteArray) = tb (nameL m) by rw [hs]
    rw [hit]
    unfold nameL
    rw [if_pos h]
    have e1 : (m : Int).toNat = m := rfl
    rw [e1]
    by_cases hb : (m : Int) < 26
    · rw [if_pos hb, if_pos hb]; rfl
    · rw [if_neg hb, if_neg hb]
      show tb [39] ++ tb [UInt8.ofNat (97 + m % 26)] ++ tb (Lib.decDigits (m / 26)) = _
      rw [tb_app, tb_app]; rfl
  · exact name_no n h w
theorem nameL_len (n : Int) : (nameL n).length ≤ 13 := by
  unfold nameL
  split
  · rename_i h
    split
    · simp
    · have := decDigits_len 10 (n.toNat / 26) (by omega)
      simp; omega
  · simp
end Go.Proofs.YtggidhgifaekbaaDoor
/-
  types.text of a right type, first arms. Conditions: the type is right and lies in memory as told; it is small; the table of powers of ten holds what its initialiser lays.
-/
namespace Go.Proofs.YtggidhgifaekbaaDoor
open Go.RowKit

theorem Pow10.stay {w w' : World} (h : Pow10 w) (hq : Quiet0 w w') : Pow10 w' := by
  have hg : Tryd.prog.globalNamed "internal/strconv.uint64pow10" = some 3 := by kernel_rfl
  exact Joins.tab_stays hg h hq.below (Nat.le_refl _)
/-- a type's text out of its parts' kinds and texts -/
def txt (k n : Int) (ts : List (Int × List UInt8)) : List UInt8 :=
  if k == 1 then nameL n else if k == 2 then [105, 110, 116] else if k == 3 then [98, 111, 111, 108]
  else if k == 4 then match ts with
    | a :: b :: _ => brackL (a.1 == 4) a.2 ++ [32, 45, 62, 32] ++ b.2
    | _ => []
  else 40 :: (Lib.join (ts.map fun t => brackL (t.1 == 4) t.2) [32, 42, 32] ++ [41])
namespace Fo
def texts : Fo → List (Int × List UInt8)
  | nil => []
  | cons k n ps r => (k, txt k n ps.texts) :: r.texts
theorem texts_get : ∀ (f : Fo) (i : Nat) (k n : Int) (ps : Fo), f.get i = some (k, n, ps) → f.texts[i]? = some (k, txt k n ps.texts)
  | nil, i, k, n, ps, h => by simp [get] at h
  | cons k n ps r, 0, k', n', ps', h => by
    simp [get] at h
    obtain ⟨rfl, rfl, rfl⟩ := h
    rfl
  | cons k n ps r, i + 1, k', n', ps', h => texts_get r i k' n' ps' h
theorem right_get : ∀ (f : Fo) (i : Nat) (k n : Int) (ps : Fo), f.right = true → f.get i = some (k, n, ps) → plain k n ps.length = true ∧ ps.right = true
  | nil, i, k, n, ps, _, h => by simp [get] at h
  | cons k n ps r, 0, k', n', ps', hr, h => by
    simp [get] at h
    obtain ⟨rfl, rfl, rfl⟩ := h
    simp [right] at hr
    exact hr.1
  | cons k n ps r, i + 1, k', n', ps', hr, h => by
    simp [right] at hr
    exact right_get r i k' n' ps' hr.2 h
end Fo
def tot : List (Int × List UInt8) → Nat
  | [] => 0
  | t :: r => t.2.length + 5 + tot r
theorem brackL_len (b : Bool) (l : List UInt8) : (brackL b l).length ≤ l.length + 2 := by unfold brackL; split <;> simp
theorem join_tot : ∀ ts : List (Int × List UInt8), (Lib.join (ts.map fun t => brackL (t.1 == 4) t.2) [32, 42, 32]).length ≤ tot ts
  | [] => by simp [Lib.join]
  | [a] => by have := brackL_len (a.1 == 4) a.2; simp [Lib.join, tot]; omega
  | a :: b :: r => by
    have h1 := brackL_len (a.1 == 4) a.2
    have h2 := join_tot (b :: r)
    simp only [List.map_cons, Lib.join, List.length_append, tot] at h2 ⊢
    simp at h2 ⊢
    omega
theorem txt_len (k n : Int) (ts : List (Int × List UInt8)) : (txt k n ts).length ≤ 13 + tot ts := by
  unfold txt
  split
  · have := nameL_len n; omega
  split
  · simp; omega
  split
  · simp; omega
  split
  · match ts with
    | a :: b :: r => have := brackL_len (a.1 == 4) a.2; simp [tot]; omega
    | [a] => simp
    | [] => simp
  · have := join_tot ts
    simp; omega
theorem tot_texts : ∀ f : Fo, tot f.texts ≤ 18 * f.size
  | .nil => by simp [Fo.texts, tot]
  | .cons k n ps r => by
    have h1 := tot_texts ps
    have h2 := tot_texts r
    have h3 := txt_len k n ps.texts
    simp only [Fo.texts, tot, Fo.size]
    omega
theorem txt_bound (k n : Int) (ps : Fo) : (txt k n ps.texts).length ≤ 13 + 18 * ps.size := Nat.le_trans (txt_len k n ps.texts) (by have := tot_texts ps; omega)
def TText (k n : Int) (ps : Fo) : Prop := ∀ (w : World) (o : Option Addr) (len cap : Nat), Slc w o len ps → Fo.plain k n ps.length = true → ps.right = true → ps.size ≤ 1000 → Pow10 w →
  Calls Tryd.prog 70 #[tyv k n o len cap] w fun e w' => e = .returned (.string (tb (txt k n ps.texts))) ∧ Quiet0 w w'
set_option maxHeartbeats 1000000 in
theorem text_123 (k n : Int) (ps : Fo) (hk : k = 1 ∨ k = 2 ∨ k = 3) : TText k n ps := by
  intro w o len cap hs hp hr hsz ht
  have HN := Lib.hid (name_any n)
  have HT := Lib.hid (ht.stay (Quiet0.alloc w (.cells #[.int .i64 k, .int .i64 n, .slice o len cap] 24)))
  clear hs hp hr hsz ht
  unfold tyv
  rcases hk with rfl | rfl | rfl
  · have e : txt 1 n ps.texts = nameL n := rfl
    rw [e]
    generalize tb (nameL n) = s at *
    go_enter Tryd.func70, Tryd.ntmps70
    go_wp2_with fail
    refine (HN.out _ HT.out).mono ?_; rintro e w1 ⟨rfl, hq⟩
    go_wp2_with fail
    go_ret
    exact ⟨rfl, (Quiet0.alloc _ _).trans hq⟩
  · have e : tb (txt 2 n ps.texts) = ⟨#[105, 110, 116]⟩ := rfl
    rw [e]
    go_enter Tryd.func70, Tryd.ntmps70
    go_wp2_with fail
    go_ret
    exact ⟨rfl, Quiet0.alloc _ _⟩
  · have e : tb (txt 3 n ps.texts) = ⟨#[98, 111, 111, 108]⟩ := rfl
    rw [e]
    go_enter Tryd.func70, Tryd.ntmps70
    go_wp2_with fail
    go_ret
    exact ⟨rfl, Quiet0.alloc _ _⟩
end Go.Proofs.YtggidhgifaekbaaDoor
/-
  types.text of an arrow. Conditions: as TyText's; the parts by induction.
-/
namespace Go.Proofs.YtggidhgifaekbaaDoor
open Go.RowKit

set_option maxHeartbeats 4000000 in
set_option maxRecDepth 100000 in
theorem text_4 (n : Int) (ps : Fo) (ih : ∀ i k' n' qs, ps.get i = some (k', n', qs) → TText k' n' qs) : TText 4 n ps := by
  intro w o len cap hs hp hr hsz ht
  have hl : len = 2 := by
    have := hs.1
    simp [Fo.plain] at hp
    omega
  subst hl
  obtain ⟨b, off, k0, n0, q0, o0, l0, c0, rfl, hd0, hg0, a0, a1, a2, hs0⟩ := hs.nth (i := 0) (by omega)
  obtain ⟨b', off', k1, n1, q1, o1, l1, c1, he, hd1, hg1, b0, b1, b2, hs1⟩ := hs.nth (i := 1) (by omega)
  cases he
  have hz0 := Fo.size_get _ _ _ _ _ hg0
  have hz1 := Fo.size_get _ _ _ _ _ hg1
  obtain ⟨hp0, hr0⟩ := Fo.right_get _ _ _ _ _ hr hg0
  obtain ⟨hp1, hr1⟩ := Fo.right_get _ _ _ _ _ hr hg1
  rw [Nat.zero_mul, Nat.add_zero] at a0 a1 a2
  rw [Nat.one_mul] at b0 b1 b2
  have hbl := World.block_lt_of_cell? w _ a0
  obtain ⟨s0, hs0'⟩ : ∃ s, s = tb (txt k0 n0 q0.texts) := ⟨_, rfl⟩
  obtain ⟨s1, hs1'⟩ : ∃ s, s = tb (txt k1 n1 q1.texts) := ⟨_, rfl⟩
  obtain ⟨sb, hsb'⟩ : ∃ s, s = tb (brackL (k0 == 4) (txt k0 n0 q0.texts)) := ⟨_, rfl⟩
  have hs1z : s1.size ≤ 20000 := by rw [hs1', tb_size]; have := txt_bound k1 n1 q1; omega
  have hsbz : sb.size ≤ 20000 := by rw [hsb', tb_size]; have := txt_bound k0 n0 q0; have := brackL_len (k0 == 4) (txt k0 n0 q0.texts); omega
  have HC0 : Hid (∀ W, Quiet0 w W → Calls Tryd.prog 70 #[.agg #[.int .i64 k0, .int .i64 n0, .slice o0 l0 c0]] W fun e w' => e = .returned (.string s0) ∧ Quiet0 W w') := by
    intro W hq; rw [hs0']; exact ih 0 k0 n0 q0 hg0 W o0 l0 c0 (hs0.stay hq) hp0 hr0 (by omega) (ht.stay hq)
  have HC1 : Hid (∀ W, Quiet0 w W → Calls Tryd.prog 70 #[.agg #[.int .i64 k1, .int .i64 n1, .slice o1 l1 c1]] W fun e w' => e = .returned (.string s1) ∧ Quiet0 W w') := by
    intro W hq; rw [hs1']; exact ih 1 k1 n1 q1 hg1 W o1 l1 c1 (hs1.stay hq) hp1 hr1 (by omega) (ht.stay hq)
  have HBR : Hid (∀ W, Calls Tryd.prog 108 #[.bool (k0 == 4), .string s0] W fun e w' => e = .returned (.string sb) ∧ W = w') := by
    intro W; rw [hs0', hsb']; exact bracket_any (k0 == 4) (txt k0 n0 q0.texts) (by have := txt_bound k0 n0 q0; omega) W
  have HFIN : Hid (sb ++ ⟨#[32, 45, 62, 32]⟩ ++ s1 = tb (txt 4 n ps.texts)) := by
    show _ = _
    have e0 := Fo.texts_get _ _ _ _ _ hg0
    have e1 := Fo.texts_get _ _ _ _ _ hg1
    have e : txt 4 n ps.texts = brackL (k0 == 4) (txt k0 n0 q0.texts) ++ [32, 45, 62, 32] ++ txt k1 n1 q1.texts := by
      match hts : ps.texts, e0, e1 with
      | a :: b :: r, e0, e1 =>
        simp at e0 e1
        subst e0 e1
        rfl
    rw [e, hsb', hs1', ← tb_app, ← tb_app]; rfl
  rw [← HFIN.out]
  have u1 : (9223372036854775807 < sb.size + 4) = False := by simp; omega
  have u2 : (9223372036854775807 < sb.size + 4 + s1.size) = False := by simp; omega
  have u3 : (9223372036854775807 < sb.size + (⟨#[32, 45, 62, 32]⟩ : ByteArray).size) = False := by have : (⟨#[32, 45, 62, 32]⟩ : ByteArray).size = 4 := rfl; simp; omega
  have u4 : (sb ++ ⟨#[32, 45, 62, 32]⟩ : ByteArray).size = sb.size + 4 := by rw [ByteArray.size_append]; rfl
  clear hs hp hr hsz ht hg0 hg1 hd0 hd1 hs0 hs1 hz0 hz1 hp0 hp1 hr0 hr1 hs0' hs1' hsb' ih HFIN
  unfold tyv
  go_enter Tryd.func70, Tryd.ntmps70
  go_wp2_with fail
  obtain ⟨W0, hW0⟩ : ∃ W0, W0 = w.alloc (.cells #[.int .i64 4, .int .i64 n, .slice (some ⟨b, off, none⟩) 2 cap] 24) := ⟨_, rfl⟩
  change Code.wp _ _ _ _ (w.alloc (.cells #[.int .i64 4, .int .i64 n, .slice (some ⟨b, off, none⟩) 2 cap] 24))
  have HQ0 : Hid (Quiet0 w W0) := by rw [hW0]; exact Quiet0.alloc _ _
  have g2 : W0.cell? ⟨w.heap.size, 2, none⟩ = some (.slice (some ⟨b, off, none⟩) 2 cap) := by
    rw [hW0]; exact (box_cells w 4 n (some ⟨b, off, none⟩) 2 cap _ _ (Quiet0.refl _)).2.2
  rw [← hW0]
  replace a0 := HQ0.out.at a0
  replace a1 := HQ0.out.at a1
  replace a2 := HQ0.out.at a2
  replace b0 := HQ0.out.at b0
  replace b1 := HQ0.out.at b1
  replace b2 := HQ0.out.at b2
  clear hW0
  generalize hB : w.heap.size = B at *
  clear hB
  go_region_held3 (fun w' => w'.cell? ⟨B, 2, none⟩ = some (.slice (some ⟨b, off, none⟩) 2 cap) ∧ w'.cell? ⟨b, off, none⟩ = some (.int .i64 k0) ∧ w'.cell? ⟨b, off + 1, none⟩ = some (.int .i64 n0) ∧ w'.cell? ⟨b, off + 2, none⟩ = some (.slice o0 l0 c0) ∧ w'.cell? ⟨b, off + 3, none⟩ = some (.int .i64 k1) ∧ w'.cell? ⟨b, off + 3 + 1, none⟩ = some (.int .i64 n1) ∧ w'.cell? ⟨b, off + 3 + 2, none⟩ = some (.slice o1 l1 c1))
    (first
      | (go_keep; done)
      | (exact ⟨hq5.at g2, hq5.at a0, hq5.at a1, hq5.at a2, hq5.at b0, hq5.at b1, hq5.at b2⟩)
      | (exact ⟨hq3.at g2, hq3.at a0, hq3.at a1, hq3.at a2, hq3.at b0, hq3.at b1, hq3.at b2⟩)
      | (exact ⟨g2, a0, a1, a2, b0, b1, b2⟩))
    (first
      | (go_at_call 70; with_reducible refine (HC0.out _ (HQ0.out.trans (Quiet0.drew _))).mono ?_; rintro e w3 ⟨rfl, hq3⟩; replace hq3 := (Quiet0.drew W0).trans hq3)
      | (go_at_call 108; with_reducible refine (HBR.out _).mono ?_; rintro e w4 ⟨rfl, rfl⟩)
      | (go_at_call 70; with_reducible refine (HC1.out _ (HQ0.out.trans hq3)).mono ?_; rintro e w5 ⟨rfl, hq5⟩; replace hq5 := hq3.trans hq5))
  all_goals
    go_wp2_with fail
    go_ret
    exact ⟨rfl, HQ0.out.trans hq5⟩
end Go.Proofs.YtggidhgifaekbaaDoor
/-
  types.text of a tuple. Conditions: as TyText's; the parts by induction.
-/
namespace Go.Proofs.YtggidhgifaekbaaDoor
open Go.RowKit

theorem elemStr : Elem Tryd.prog 110 9 (.string ByteArray.empty) 1 16 :=
  ⟨Tryd.underlying110, by kernel_rfl, by decide, by decide⟩
theorem ownsRow_cap {w : World} {base : Nat} {e : TypeId} {size g n c : Nat} {xs : List Value} (h : w.ownsRow base e size (.slice (some ⟨g, 0, none⟩) n c) n xs) : n ≤ c := by
  rcases h.2 with ⟨h1, _⟩ | ⟨g', cap, cur, he, _, _, hc, _⟩
  · cases h1
  · injection he with h1 h2 h3; omega
/-- append of one element, in a region that draws its order -/
theorem step_append_one {P : Program} (W : World) {ops : Array Oper} {o : Oper} {a : Act} {K : Act → World → Prop} {Q : Exit → Act → World → Prop} {E : Prop}
    (hg : o.guard = none) (s x : Operand) (t : TypeId) (hop : o.op = Op.call { callee := Callee.builtin Builtin.append, args := #[s, x], argTypes := #[t, t] })
    (e : TypeId) (z : Value) (size bytes : Nat) (he : Elem P t e z size bytes)
    (v : Value) (n : Nat) (xs : List Value) (hs : a.eval s = v) (hown : W.ownsRow 0 e size v n xs)
    (news : Array Value) (hx : a.eval x = .slice (some ⟨W.heap.size, 0, none⟩) 1 1) (hn : news.size = size) (h1c : ∀ u ∈ news.toList, u.oneCell' = true)
    (b1 : n + 1 ≤ maxLen) (b2 : (n + 1) * bytes ≤ 140737488355328)
    (hK : ∀ g c w', w'.ownsRow 0 e size (.slice (some ⟨g, 0, none⟩) (n + 1) c) (n + 1) (xs ++ news.toList) → Fr (fun k => v.ownBlock = some k) W w' → (v.ownBlock = some g ∨ W.heap.size ≤ g) → K (a.put o.dst (.slice (some ⟨g, 0, none⟩) (n + 1) c)) w') :
    if Region.wanted o (yielded ops a.tmps) = true then Oper.wp P o a (W.alloc (.cells news e)) K Q else E := by
  obtain ⟨i0, hi, hz0, hz1, hz2⟩ := info_parts he.info
  refine step_append_lies (w := W.alloc (.cells news e)) hg s x t hop 0 e i0 z size bytes he.under hi hz0 hz1 hz2 he.cells he.pos v n xs hs (hown.alloc _) ⟨W.heap.size, 0, none⟩ 1 1 news.toList hx (by simpa using hn) ?_ h1c (by omega) b1 b2 (Nat.zero_le _) _ rfl ?_
  · intro j u hu
    rw [Addr.add_lit, cell_of_row (W.alloc (.cells news e)) W.heap.size (0 + j) news e (0, 0) (heap_alloc_new W _)]
    simpa using hu
  · intro g cap w' ho hgr hg' _
    refine hK g cap w' ho ((Fr.alloc _ W _).trans (Fr.grown hgr (fun k hk => hk))) ?_
    rcases hg' with h | h
    · exact .inl h
    · exact .inr (by simp at h; omega)
def bl (t : Int × List UInt8) : ByteArray := tb (brackL (t.1 == 4) t.2)
theorem Fo.texts_length : ∀ f : Fo, f.texts.length = f.length
  | .nil => rfl
  | .cons k n ps r => by simp [Fo.texts, Fo.length, Fo.texts_length r]
set_option maxHeartbeats 4000000 in
set_option maxRecDepth 100000 in
theorem text_5 (n : Int) (ps : Fo) (ih : ∀ i k' n' qs, ps.get i = some (k', n', qs) → TText k' n' qs) : TText 5 n ps := by
  intro w o len cap hs hp hr hsz ht
  have hl : 2 ≤ len ∧ len ≤ 8 := by
    have := hs.1
    simp [Fo.plain] at hp
    omega
  obtain ⟨hl2, hl8⟩ := hl
  have HS := Lib.hid hs
  have HL := Lib.hid hs.1
  have HT := Lib.hid ht
  have HR := Lib.hid hr
  have IH := Lib.hid ih
  obtain ⟨sj, hsj⟩ : ∃ s, s = tb (Lib.join (ps.texts.map fun t => brackL (t.1 == 4) t.2) [32, 42, 32]) := ⟨_, rfl⟩
  have hjt := join_tot ps.texts
  have htt := tot_texts ps
  have hjz : sj.size ≤ 20000 := by rw [hsj, tb_size]; omega
  have HJZ : Hid ((Lib.join ((ps.texts.map bl).map (·.data.toList)) (⟨#[32, 42, 32]⟩ : ByteArray).data.toList).length ≤ 140737488355328 ∧ (⟨(Lib.join ((ps.texts.map bl).map (·.data.toList)) (⟨#[32, 42, 32]⟩ : ByteArray).data.toList).toArray⟩ : ByteArray) = sj) := by
    have e : (ps.texts.map bl).map (·.data.toList) = ps.texts.map fun t => brackL (t.1 == 4) t.2 := by
      rw [List.map_map]; rfl
    rw [e]
    refine ⟨?_, by rw [hsj]; rfl⟩
    show (Lib.join (ps.texts.map fun t => brackL (t.1 == 4) t.2) [32, 42, 32]).length ≤ _
    omega
  have HFIN : Hid (⟨#[40]⟩ ++ sj ++ ⟨#[41]⟩ = tb (txt 5 n ps.texts)) := by
    show _ = _
    have e : txt 5 n ps.texts = [40] ++ Lib.join (ps.texts.map fun t => brackL (t.1 == 4) t.2) [32, 42, 32] ++ [41] := rfl
    rw [e, hsj, ← tb_app, ← tb_app]; rfl
  have u1 : (⟨#[40]⟩ ++ sj : ByteArray).size = sj.size + 1 := by rw [ByteArray.size_append, Nat.add_comm]; rfl
  rw [← HFIN.out]
  clear hs hp hr ht ih hsj hjt htt HFIN
  unfold tyv
  go_enter Tryd.func70, Tryd.ntmps70
  go_wp2_with fail
  obtain ⟨W0, hW0⟩ : ∃ W0, W0 = w.alloc (.cells #[.int .i64 5, .int .i64 n, .slice o len cap] 24) := ⟨_, rfl⟩
  change Code.wp _ _ _ _ (w.alloc (.cells #[.int .i64 5, .int .i64 n, .slice o len cap] 24))
  have HQ0 : Hid (Quiet0 w W0) := by rw [hW0]; exact Quiet0.alloc _ _
  rw [← hW0]
  clear hW0
  generalize hB : w.heap.size = B at *
  clear hB
  go_loopw [3, 41] (fun v t wr => ∃ (i : Nat) (vo : Option Addr) (vc : Nat), t = .int .i64 i ∧ i ≤ len ∧ v = .slice vo i vc ∧ wr.ownsRow 0 9 1 (.slice vo i vc) i ((ps.texts.take i).map fun t => .string (bl t)) ∧ (∀ g, (Value.slice vo i vc).ownBlock = some g → W0.heap.size ≤ g) ∧ Quiet0 W0 wr) (fun _ t _ => len - (intOf t).toNat)
  case atStart => exact ⟨0, none, 0, rfl, Nat.zero_le _, rfl, World.ownsRow_nil _ _ _ _, (fun g hg => by cases hg), Quiet0.refl _⟩
  case round =>
    obtain ⟨i, vo, vc, rfl, hi, rfl, hrow, hge, hq⟩ := hrel
    have HRW := Lib.hid hrow
    have HG := Lib.hid hge
    have HQ := Lib.hid hq
    clear hrow hge hq
    by_cases hlt : i < len
    · have hlt' : (i : Int) < len := by omega
      obtain ⟨b, off, k1, n1, qs, o1, len1, cap1, rfl, hd, hg, e0, e1, e2, hs1⟩ := (HS.out.stay (HQ0.out.trans HQ.out)).nth hlt
      have hsq := Fo.size_get ps i k1 n1 qs hg
      obtain ⟨hp1, hr1⟩ := Fo.right_get _ _ _ _ _ HR.out hg
      have HTX := Lib.hid (Fo.texts_get _ _ _ _ _ hg)
      obtain ⟨s1, hs1'⟩ : ∃ s, s = tb (txt k1 n1 qs.texts) := ⟨_, rfl⟩
      obtain ⟨sb, hsb'⟩ : ∃ s, s = tb (brackL (k1 == 4) (txt k1 n1 qs.texts)) := ⟨_, rfl⟩
      have HC : Hid (∀ W, Quiet0 wr W → Calls Tryd.prog 70 #[.agg #[.int .i64 k1, .int .i64 n1, .slice o1 len1 cap1]] W fun e w' => e = .returned (.string s1) ∧ Quiet0 W w') := by
        intro W hq; rw [hs1']; exact IH.out i k1 n1 qs hg W o1 len1 cap1 (hs1.stay hq) hp1 hr1 (by omega) (HT.out.stay ((HQ0.out.trans HQ.out).trans hq))
      have HBR : Hid (∀ W, Calls Tryd.prog 108 #[.bool (k1 == 4), .string s1] W fun e w' => e = .returned (.string sb) ∧ W = w') := by
        intro W; rw [hs1', hsb']; exact bracket_any (k1 == 4) (txt k1 n1 qs.texts) (by have := txt_bound k1 n1 qs; omega) W
      have HROW : Hid ((ps.texts.take (i + 1)).map (fun t => Value.string (bl t)) = (ps.texts.take i).map (fun t => Value.string (bl t)) ++ [.string sb]) := by
        show _ = _
        rw [List.take_add_one, HTX.out, List.map_append, hsb']; rfl
      clear hd hg hs1 hsq hp1 hr1 hs1' hsb' HTX
      go_wp2_with fail
      obtain ⟨g0, g1, g2⟩ := box_cells wr k1 n1 o1 len1 cap1 24 _ (Quiet0.refl _)
      have hvb : ∀ kk, (Value.slice vo i vc).ownBlock = some kk → kk < wr.heap.size := fun kk h => (HRW.out.lt kk h).2
      go_region_held3 (fun w' => w'.cell? ⟨wr.heap.size, 0, none⟩ = some (.int .i64 k1) ∧ w'.cell? ⟨wr.heap.size, 1, none⟩ = some (.int .i64 n1) ∧ w'.cell? ⟨wr.heap.size, 2, none⟩ = some (.slice o1 len1 cap1))
        (first
          | (go_keep; done)
          | (exact ⟨j0, j1, j2⟩)
          | (exact ⟨h0, h1, h2⟩)
          | (exact ⟨(Quiet0.alloc _ _).at h0, (Quiet0.alloc _ _).at h1, (Quiet0.alloc _ _).at h2⟩)
          | (exact ⟨g0, g1, g2⟩))
        (first
          | (go_at_call 70; with_reducible refine (HC.out _ ((Quiet0.alloc _ _).trans (Quiet0.drew _))).mono ?_; rintro e w1 ⟨rfl, hq1⟩; have hqb := (Quiet0.drew _).trans hq1; have h0 := hqb.at g0; have h1 := hqb.at g1; have h2 := hqb.at g2; have hbx := World.block_lt_of_cell? w1 _ h0; have HQ1 := Lib.hid ((Quiet0.alloc _ _).trans hqb); clear hq1 hqb)
          | (go_at_call 108; with_reducible refine (HBR.out _).mono ?_; rintro e w1' ⟨rfl, rfl⟩)
          | (refine step_append_one w1 (by rfl) (.tmp 45) (.tmp 52) 110 (by rfl) 9 _ 1 16 elemStr (.slice vo i vc) i ((ps.texts.take i).map fun t => .string (bl t)) (by rfl) (ownsRow_fr HRW.out HQ1.out (fun _ _ h => h)) #[.string sb] (by rfl) (by rfl) (by simp [Value.oneCell']) (by unfold maxLen; omega) (by omega) ?_; intro g2' c' w2 ho hf hg2; have j0 := (hf.cellb hbx (fun h => by have := hvb _ h; omega)).trans h0; have j1 := (hf.cellb hbx (fun h => by have := hvb _ h; omega)).trans h1; have j2 := (hf.cellb hbx (fun h => by have := hvb _ h; omega)).trans h2))
      all_goals
        have HO : Hid (w2.ownsRow 0 9 1 (.slice (some ⟨g2', 0, none⟩) (i + 1) c') (i + 1) ((ps.texts.take (i + 1)).map fun t => .string (bl t))) := by
          show World.ownsRow _ _ _ _ _ _ _
          rw [HROW.out]; simpa using ho
        have HQ2 : Hid (Quiet0 W0 w2) := by
          exact Fr.trans' (HQ.out.trans HQ1.out) hf (fun kk hkk h => absurd (HG.out kk h) (by omega))
        have HG2 : Hid (∀ g', (Value.slice (some ⟨g2', 0, none⟩) (i + 1) c').ownBlock = some g' → W0.heap.size ≤ g') := by
          intro g' h
          simp [Value.ownBlock] at h
          subst h
          rcases hg2 with h | h
          · exact HG.out _ h
          · exact Nat.le_trans (HQ.out.trans HQ1.out).size h
        clear ho hf hg2
        go_wp2_with fail
        go_roundw
        case rel => exact ⟨i + 1, some ⟨g2', 0, none⟩, c', by go_num, by omega, rfl, HO.out, HG2.out, HQ2.out⟩
        case measure => simp [intOf]; omega
    · have hil : i = len := by omega
      subst hil
      have hlt' : ¬ (i : Int) < i := by omega
      have htk : ps.texts.take i = ps.texts := List.take_of_length_le (by rw [Fo.texts_length]; have := HL.out; omega)
      rw [htk] at HRW
      obtain ⟨g, hvo⟩ : ∃ g, vo = some ⟨g, 0, none⟩ := by
        rcases HRW.out.2 with ⟨h1, h2⟩ | ⟨g, cap, cur, he, _⟩
        · omega
        · injection he with h1 h2 h3; exact ⟨g, h1⟩
      subst hvo
      have hcap := ownsRow_cap HRW.out
      have hgl := (HRW.out.lt g rfl).2
      have hcells : ∀ (j : Nat) x, (ps.texts.map bl)[j]? = some x → wr.cell? ⟨g, 0 + j, none⟩ = some (.string x) := by
        intro j x hx
        have := HRW.out.cells (g := g) rfl j (.string x) (by
          rw [List.getElem?_map] at hx ⊢
          cases ht : ps.texts[j]? with
          | none => rw [ht] at hx; cases hx
          | some t => rw [ht] at hx; simp at hx ⊢; exact hx)
        simpa [Addr.add_lit] using this
      have hlen' : (ps.texts.map bl).length = i := by rw [List.length_map, Fo.texts_length]; exact HL.out.symm
      have hJ := Tryd.strings_Join g 0 vc (ps.texts.map bl) ⟨#[32, 42, 32]⟩ wr hcells hgl (by omega) (by omega) HJZ.out.1
      rw [HJZ.out.2, hlen'] at hJ
      have HJ := Lib.hid hJ
      clear hJ hcells htk hlen'
      go_wp2_with fail
      refine HJ.out.mono ?_; rintro e w2 ⟨rfl, hb⟩
      have HB2 := Lib.hid (Quiet0.of_below hb)
      clear hb
      go_wp2_with fail
      go_ret
      exact ⟨rfl, (HQ0.out.trans HQ.out).trans HB2.out⟩
theorem text_any (k n : Int) (ps : Fo) : TText k n ps := by
  refine Fo.ind' (T := TText) ?_ k n ps
  intro k n ps ih
  by_cases h : k = 1 ∨ k = 2 ∨ k = 3
  · exact text_123 k n ps h
  · by_cases h4 : k = 4
    · subst h4; exact text_4 n ps ih
    · by_cases h5 : k = 5
      · subst h5; exact text_5 n ps ih
      · intro w o len cap hs hp
        exfalso
        have q1 : ¬ k = 1 := fun e => h (.inl e)
        have q2 : ¬ k = 2 := fun e => h (.inr (.inl e))
        have q3 : ¬ k = 3 := fun e => h (.inr (.inr e))
        simp [Fo.plain, q1, q2, q3, h4, h5] at hp
end Go.Proofs.YtggidhgifaekbaaDoor
