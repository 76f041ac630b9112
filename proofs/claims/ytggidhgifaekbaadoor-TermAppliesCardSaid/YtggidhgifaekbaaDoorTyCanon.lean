/-
  types.Canon and Shift. Conditions: the type lies in memory as told; its numbers are in range; it is small.
-/
import Derived.Test.YtggidhgifaekbaaDoorTyVars2
import Derived.Test.YtggidhgifaekbaaDoorTyArrow
namespace Go.Proofs.YtggidhgifaekbaaDoor
open Go.RowKit Go.Maps

theorem vars_len : ∀ (f : Fo) (l : List Int), (Fo.vars l f).length ≤ l.length + f.size
  | .nil, l => by simp [Fo.vars, Fo.size]
  | .cons k n ps r, l => by
    rw [vars_cons]
    have h1 := vars_len r (Fo.vars (varStep l k n ps) ps)
    have h2 := vars_len ps (varStep l k n ps)
    have h3 : (varStep l k n ps).length ≤ l.length + 1 := by unfold varStep; split <;> simp
    simp only [Fo.size]; omega
theorem vars_all {G : Int → Prop} : ∀ (f : Fo) (l : List Int), (∀ v ∈ l, G v) → allF G f → ∀ v ∈ Fo.vars l f, G v
  | .nil, l, hl, _ => hl
  | .cons k n ps r, l, hl, hf => by
    rw [vars_cons]
    refine vars_all r _ (vars_all ps _ ?_ hf.2.1) hf.2.2
    unfold varStep
    split
    · intro v hv
      rcases List.mem_append.1 hv with h | h
      · exact hl v h
      · have : v = n := by simpa using h
        subst this; exact hf.1
    · exact hl
theorem IntRow.at {B : Nat} {w : World} {vo : Value} {l : List Int} (h : IntRow B w vo l) : ∃ a c, vo = .slice a l.length c ∧ l.length ≤ c ∧ (∀ g, (Value.slice a l.length c).ownBlock = some g → B ≤ g) ∧ w.ownsRow 0 3 1 (.slice a l.length c) l.length (ints l) := by
  obtain ⟨h1, h2⟩ := h
  have h1' := h1
  rcases h1.2 with ⟨rfl, h0⟩ | ⟨g, cap, cur, rfl, _, _, hc, _⟩
  · exact ⟨none, 0, by rw [h0], by omega, by rw [h0]; exact h2, by rw [h0]; rw [h0] at h1'; exact h1'⟩
  · exact ⟨some ⟨g, 0, none⟩, cap, rfl, by omega, h2, h1'⟩
theorem row_int {w : World} {a : Option Addr} {n c : Nat} {l : List Int} (h : w.ownsRow 0 3 1 (.slice a n c) l.length (ints l)) {i : Nat} {x : Int} (hx : l[i]? = some x) : ∃ g, a = some ⟨g, 0, none⟩ ∧ w.cell? ⟨g, i, none⟩ = some (.int .i64 x) := by
  rcases h.2 with ⟨he, h0⟩ | ⟨g, cap, cur, he, _⟩
  · rw [List.length_eq_zero_iff.1 h0] at hx; simp at hx
  · injection he with h1 h2 h3
    subst h1
    have := h.cells (g := g) rfl i (.int .i64 x) (by unfold ints; rw [List.getElem?_map, hx]; rfl)
    exact ⟨g, rfl, by simpa [Addr.add_lit] using this⟩
/-- each one's place -/
def placeN (l : List Int) : Nat → Int → Int
  | 0, _ => 0
  | i + 1, v => if l[i]? = some v then i else placeN l i v
def canonP (k n : Int) (ps : Fo) : Int → Int := placeN (Fo.vars [] (.cons k n ps .nil)) (Fo.vars [] (.cons k n ps .nil)).length
theorem eg_canon : ∀ args w, (callFunc 80 args).run Tryd.prog w = .ok (.enter 80 args) w := enters_of Tryd.func80 (by kernel_rfl) rfl
theorem canon1_any (w0 : World) (cs bm m : Nat) (p : Int → Int) (h1 : Box1 w0 cs (.map (some bm)) 84) (h2 : MapOf w0 bm m p) : DoK 80 #[.pointer (some ⟨cs, 0, none⟩)] w0 wfI p := by
  intro n W hn hq
  have c1 := cell_of_one (h1.fr hq (fun h => h))
  have hlk := (h2.stay hq).look hn
  clear h1 h2
  go_enter Tryd.func80, Tryd.ntmps80
  go_wp2_with fail
  go_ret
  exact ⟨rfl, Quiet0.refl _⟩
theorem newN_eq (p : Int → Int) (k n : Int) : newN p k n = if k == 1 then p n else n := rfl
set_option maxHeartbeats 4000000 in
set_option maxRecDepth 100000 in
theorem canon_any (k n : Int) (ps : Fo) (w : World) (o : Option Addr) (len cap : Nat) (hs : Slc w o len ps) (hn : wfI n) (hw : wfF ps) (hsz : ps.size ≤ 100000) :
    Calls Tryd.prog 35 #[tyv k n o len cap] w fun e w' => ∃ o' cap', e = .returned (tyv k (newN (canonP k n ps) k n) o' len cap') ∧ SlcIn (fun b => w.heap.size ≤ b) w' o' len (ps.change (canonP k n ps)) ∧ Quiet0 w w' := by
  have HS := Lib.hid hs
  have HN := Lib.hid hn
  have HW := Lib.hid hw
  have HWF : Hid (wfF (.cons k n ps .nil)) := ⟨hn, hw, trivial⟩
  have HSZ : Hid ((Fo.cons k n ps .nil).size ≤ 1000000) := by show _ ≤ _; simp only [Fo.size]; omega
  have hll : (Fo.vars [] (.cons k n ps .nil)).length ≤ 100001 := by have := vars_len (.cons k n ps .nil) []; simp only [Fo.size, List.length_nil] at this; omega
  have HWL : Hid (∀ v ∈ Fo.vars [] (.cons k n ps .nil), wfI v) := vars_all (G := wfI) _ [] (fun v h => by cases h) HWF.out
  have hmm := @run_makeMap Tryd.prog
  unfold canonP
  obtain ⟨W1, hW1⟩ : ∃ W1, W1 = ((((w.alloc (.cells #[.int .i64 k, .int .i64 n, .slice o len cap] 24)).alloc (.cells #[.int .i64 0, .int .i64 0, .slice none 0 0] 24)).alloc (.map #[] 0)).alloc (.cells #[.map (some (w.heap.size + 1 + 1))] 84)).alloc (.cells #[.int .i64 k, .int .i64 n, .slice o len cap] 24) := ⟨_, rfl⟩
  have HQ1 : Hid (Quiet0 w W1) := by rw [hW1]; exact ((((Quiet0.alloc _ _).trans (Quiet0.alloc _ _)).trans (Quiet0.alloc _ _)).trans (Quiet0.alloc _ _)).trans (Quiet0.alloc _ _)
  have s1 : (w.alloc (.cells #[.int .i64 k, .int .i64 n, .slice o len cap] 24)).heap.size = w.heap.size + 1 := by simp
  have s2 : ((w.alloc (.cells #[.int .i64 k, .int .i64 n, .slice o len cap] 24)).alloc (.cells #[.int .i64 0, .int .i64 0, .slice none 0 0] 24)).heap.size = w.heap.size + 1 + 1 := by simp
  have s3 : (((w.alloc (.cells #[.int .i64 k, .int .i64 n, .slice o len cap] 24)).alloc (.cells #[.int .i64 0, .int .i64 0, .slice none 0 0] 24)).alloc (.map #[] 0)).heap.size = w.heap.size + 1 + 1 + 1 := by simp
  have s4 : ((((w.alloc (.cells #[.int .i64 k, .int .i64 n, .slice o len cap] 24)).alloc (.cells #[.int .i64 0, .int .i64 0, .slice none 0 0] 24)).alloc (.map #[] 0)).alloc (.cells #[.map (some (w.heap.size + 1 + 1))] 84)).heap.size = w.heap.size + 1 + 1 + 1 + 1 := by simp
  have HB0 : Hid (W1.heap[w.heap.size]? = some (.cells #[.int .i64 k, .int .i64 n, .slice o len cap] 24 (0, 0))) := by
    rw [hW1]; exact box_after (heap_alloc_new w _) ((((Quiet0.alloc _ _).trans (Quiet0.alloc _ _)).trans (Quiet0.alloc _ _)).trans (Quiet0.alloc _ _))
  have HB1 : Hid (W1.heap[w.heap.size + 1]? = some (.cells #[.int .i64 0, .int .i64 0, .slice none 0 0] 24 (0, 0))) := by
    rw [hW1, ← s1]; exact box_after (heap_alloc_new _ _) (((Quiet0.alloc _ _).trans (Quiet0.alloc _ _)).trans (Quiet0.alloc _ _))
  have HM1 : Hid (MapOf W1 (w.heap.size + 1 + 1) 0 (fun _ => 0)) := by
    rw [hW1, ← s2]; exact (MapOf.made _).stay ((Quiet0.alloc _ _).trans (Quiet0.alloc _ _))
  have HC1 : Hid (Box1 W1 (w.heap.size + 1 + 1 + 1) (.map (some (w.heap.size + 1 + 1))) 84) := by
    rw [hW1, ← s3]
    have := (Box1.new (((w.alloc (.cells #[.int .i64 k, .int .i64 n, .slice o len cap] 24)).alloc (.cells #[.int .i64 0, .int .i64 0, .slice none 0 0] 24)).alloc (.map #[] 0)) (.map (some (w.heap.size + 1 + 1))) 84).alloc (.cells #[.int .i64 k, .int .i64 n, .slice o len cap] 24)
    rw [s3] at this ⊢
    exact this
  have HSL : Hid (Slc W1 (some ⟨w.heap.size + 1 + 1 + 1 + 1, 0, none⟩) 1 (.cons k n ps .nil)) := by
    have hb : W1.heap[w.heap.size + 1 + 1 + 1 + 1]? = some (.cells #[.int .i64 k, .int .i64 n, .slice o len cap] 24 (0, 0)) := by rw [hW1, ← s4]; exact heap_alloc_new _ _
    have h1 := HS.out.stay HQ1.out
    exact ⟨rfl, by decide, fun _ => ⟨_, 0, rfl, by rw [cell_of_row _ _ _ _ _ (0, 0) hb]; rfl, by rw [cell_of_row _ _ _ _ _ (0, 0) hb]; rfl, ⟨o, len, cap, by rw [cell_of_row _ _ _ _ _ (0, 0) hb]; rfl, h1.1, h1.2.1, h1.2.2⟩, trivial⟩⟩
  have hz1 : w.heap.size + 1 + 1 + 1 + 1 < W1.heap.size := by rw [hW1]; simp
  have HVA := Lib.hid (vars_any (.cons k n ps .nil) W1 _ 1 1 HSL.out HWF.out HSZ.out)
  generalize hL : Fo.vars [] (.cons k n ps .nil) = L at *
  obtain ⟨P, hP⟩ : ∃ P, P = placeN L L.length := ⟨_, rfl⟩
  rw [← hP]
  obtain ⟨n', hn'⟩ : ∃ n', n' = newN P k n := ⟨_, rfl⟩
  rw [← hn']
  have HP := Lib.hid hP
  have HN' := Lib.hid hn'
  clear hs hn hw hL s1 s2 s3 s4 hP hn'
  unfold tyv
  go_enter Tryd.func35, Tryd.ntmps35
  go_wp2_with fail
  rw [← hW1]
  generalize hB : w.heap.size = B at *
  clear hW1
  refine HVA.out.mono ?_; rintro e w2 ⟨vo, rfl, hrow, hq2⟩
  obtain ⟨a, c, rfl, hlc, hge, hown⟩ := hrow.at
  have HOWN := Lib.hid hown
  have HGE := Lib.hid hge
  have HQ2 := Lib.hid hq2
  clear hrow hown hge hq2
  go_wp2_with fail
  go_loopw [4, 5, 11] (fun _ _ t wr => ∃ i : Nat, t = .int .i64 i ∧ i ≤ L.length ∧ MapOf wr (B + 1 + 1) i (placeN L i) ∧ Fr (fun j => j = B + 1 + 1) w2 wr) (fun _ _ t _ => L.length - (intOf t).toNat)
  case atStart => exact ⟨0, rfl, Nat.zero_le _, (HM1.out.stay HQ2.out).cong (fun _ _ => rfl), Fr.refl _ _⟩
  case round =>
    obtain ⟨i, rfl, hi, hm, hf⟩ := hrel
    have HM := Lib.hid hm
    have HF := Lib.hid hf
    have hC := ((HC1.out.fr HQ2.out (fun h => h)).fr hf (fun h => by omega))
    have HCC := Lib.hid hC
    have c3 := cell_of_one hC
    clear hm hf hC
    by_cases hlt : i < L.length
    · have hlt' : (i : Int) < L.length := by omega
      obtain ⟨x, hx⟩ : ∃ x, L[i]? = some x := ⟨_, List.getElem?_eq_getElem hlt⟩
      obtain ⟨g, rfl, hc⟩ := row_int (ownsRow_fr HOWN.out HF.out (fun g hg h => by have := HGE.out g hg; have h' : g = B + 1 + 1 := h; omega)) hx
      have HX := Lib.hid hx
      have HWX := Lib.hid (HWL.out x (List.mem_of_getElem? hx))
      have HWI : Hid (wfI (i : Int)) := wfI_of (by omega) (by omega)
      clear hx
      go_wp2_with (at_mapUpdate; go_must (refine wpList_store _ rfl _ _ _ rfl rfl HM.out ?hn x i HWX.out HWI.out rfl rfl ?_))
      case hn => unfold maxLen; omega
      intro w3 hm3 hf3
      have HM3 : Hid (MapOf w3 (B + 1 + 1) (i + 1) (placeN L (i + 1))) := hm3.cong (fun v _ => by
        show _ = (if L[i]? = some v then (i : Int) else placeN L i v)
        rw [HX.out]
        by_cases h : v = x
        · rw [if_pos h, if_pos (by rw [h])]
        · rw [if_neg h, if_neg (fun hh => h (by injection hh with hh; exact hh.symm))])
      have HF3 := Lib.hid (HF.out.trans hf3)
      clear hm3 hf3
      go_wp2_with fail
      go_roundw
      case rel => exact ⟨i + 1, by go_num, by omega, HM3.out, HF3.out⟩
      case measure => simp [intOf]; omega
    · have hlt' : ¬ (i : Int) < L.length := by omega
      have hil : i = L.length := by omega
      subst hil
      have HFF : Hid (Fr (fun j => j = B + 1 + 1) W1 wr) := (HQ2.out.mono (fun _ _ h => h.elim)).trans HF.out
      have hb0 : wr.heap[B]? = some (.cells #[.int .i64 k, .int .i64 n, .slice o len cap] 24 (0, 0)) := by rw [HFF.out.block B (by omega) (fun h => by have h' : B = B + 1 + 1 := h; omega)]; exact HB0.out
      have hb1 : wr.heap[B + 1]? = some (.cells #[.int .i64 0, .int .i64 0, .slice none 0 0] 24 (0, 0)) := by rw [HFF.out.block (B + 1) (by omega) (fun h => by have h' : B + 1 = B + 1 + 1 := h; omega)]; exact HB1.out
      obtain ⟨a0, a1, a2, _, _, _⟩ := box_cells3 hb0
      have HSR : Hid (Slc wr o len ps) := (HS.out.lt.fr (T := fun j => j < w.heap.size) (Fr.trans' (HQ1.out.mono (fun _ _ h => h.elim)) HFF.out (fun i _ h => h)) (fun j _ hj => ⟨hj, fun h => by have h' : j = B + 1 + 1 := h; have h2 : j < w.heap.size := hj; omega⟩)).slc
      have HD := Lib.hid (change_any eg_canon (canon1_any wr (B + 1 + 1 + 1) (B + 1 + 1) L.length (placeN L L.length) HCC.out HM.out) k n ps wr o len cap (Quiet0.refl _) HSR.out (by omega) HN.out HW.out)
      have HBB1 := Lib.hid hb1
      rw [← HP.out, ← HN'.out] at HD
      unfold tyv at HD
      clear hb0 hb1
      go_wp2_with fail
      refine HD.out.mono ?_; rintro e w4 ⟨o2, cap2, rfl, hs4, hq4⟩
      have hbb := box_after HBB1.out hq4
      have HB4 := Lib.hid hbb
      obtain ⟨d0, d1, d2, y0, y1, y2⟩ := box_cells3 hbb
      have HS4 := Lib.hid hs4
      have HQ4 := Lib.hid hq4
      clear hs4 hq4 hbb a0 a1 a2
      go_wp2_with fail
      clear d0 d1 d2 y0 y1 y2
      have hf := put3_fr w4 (B + 1) (.int .i64 k) (.int .i64 n') (.slice o2 len cap2)
      obtain ⟨f0, f1, f2⟩ := put3_cells (a := .int .i64 k) (b := .int .i64 n') (c := .slice o2 len cap2) HB4.out
      change bodyPost _ _ _ _ _ (put3 w4 (B + 1) (.int .i64 k) (.int .i64 n') (.slice o2 len cap2))
      generalize put3 w4 (B + 1) (.int .i64 k) (.int .i64 n') (.slice o2 len cap2) = wf at *
      refine bodyPost_ret (by simp [results, Tryd.results35, go_sem, f0, f1, f2]; rfl) rfl ?_
      refine ⟨o2, cap2, rfl, HS4.out.fr hf ?_, ?_⟩
      · intro j _ hj
        have hj' : wr.heap.size ≤ j := hj
        have := HFF.out.size
        exact ⟨by omega, by omega⟩
      · exact Fr.trans' (Fr.trans' (Fr.trans' HQ1.out HFF.out (fun i hi h => by have h' : i = B + 1 + 1 := h; omega)) HQ4.out (fun _ _ h => h)) hf (fun i hi h => by have h' : i = B + 1 := h; omega)
end Go.Proofs.YtggidhgifaekbaaDoor
