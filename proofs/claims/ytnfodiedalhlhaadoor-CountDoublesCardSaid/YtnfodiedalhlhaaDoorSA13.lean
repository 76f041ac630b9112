/-
  Texts laid together (ScRsv, ScAwake, ScHas, ScNames, ScBound): what each one proves, and its conditions, stands at its head.
-/
import Derived.Test.YtnfodiedalhlhaaDoorSA1
import Derived.Test.YtnfodiedalhlhaaDoorSA2
import Derived.Test.YtnfodiedalhlhaaDoorSA3
import Derived.Test.YtnfodiedalhlhaaDoorSA4
import Derived.Test.YtnfodiedalhlhaaDoorSA5
import Derived.Test.YtnfodiedalhlhaaDoorSA6
import Derived.Test.YtnfodiedalhlhaaDoorSA7
import Derived.Test.YtnfodiedalhlhaaDoorSA8
import Derived.Test.YtnfodiedalhlhaaDoorSA9
import Derived.Test.YtnfodiedalhlhaaDoorSA10
import Derived.Test.YtnfodiedalhlhaaDoorSA11
import Derived.Test.YtnfodiedalhlhaaDoorSA12
section
/-
  scope.Resolve. Conditions: the term lies in memory as told; there are few; the table of blanks holds what its initialiser lays.
-/
namespace Go.Proofs.YtnfodiedalhlhaaDoor
open Go.RowKit Go.Shelf
namespace Sc

def zeroN : Nd := ⟨0, ⟨#[]⟩, 0, 0, 0, .nil, 0, 0⟩
/-- what a right term is sure to be -/
theorem sound_var {h : Nd} {ps : To} (hs : soundB h ps.length = true) : varOk h ps := by
  intro hk
  unfold soundB at hs
  simp only [Bool.and_eq_true, decide_eq_true_eq] at hs
  have h1 := hs.2
  rw [hk] at h1
  have : ps.length = 0 := by have h2 : kMost 1 = 0 := rfl; rw [h2] at h1; omega
  cases ps with
  | nil => rfl
  | cons _ _ _ => simp [To.length] at this
theorem right_okF : ∀ f : To, allS f = true → okF f
  | .nil, _ => trivial
  | .cons h ps r, e => by
    rw [allS_cons, Bool.and_eq_true, Bool.and_eq_true] at e
    refine ⟨sound_var e.1.1, ?_, right_okF ps e.1.2, right_okF r e.2⟩
    intro hk
    have hs := e.1.1
    unfold soundB at hs
    simp only [Bool.and_eq_true, decide_eq_true_eq] at hs
    have hn : namedB h = true := hs.1.1.1.1.1.2
    unfold namedB at hn
    have hkn : kName h.k = false := by unfold namedK bindK at hk; unfold kName; simpa [Bool.or_assoc] using hk
    rw [hkn] at hn
    simp only [Bool.false_eq_true, if_false, List.isEmpty_iff] at hn
    rw [ByteArray.toList_eq] at hn
    apply ByteArray.ext
    apply Array.toList_inj.1
    simpa using hn
def RT (h : Nd) (ps : To) : Bool := allS (.cons h ps .nil)
theorem RT_ok {h : Nd} {ps : To} (hr : RT h ps = true) : varOk h ps ∧ okF ps ∧ (namedK h.k = false → h.nm = ByteArray.empty) := by
  have := right_okF _ hr
  exact ⟨this.1, this.2.2.1, this.2.1⟩
/-- of a term: what comes, the place, the error -/
def rsvP (h : Nd) (ps : To) : (Nd × To) × (Int × Int) × Int :=
  if RT h ps then (match free1 [] h ps with
    | [] => ((resH h ps, resP h ps), (0, 0), 0)
    | x :: _ => ((zeroN, .nil), (x.fr, x.en), 5)) else ((zeroN, .nil), (0, 0), 1)
def RsvQ (w : World) (h : Nd) (ps : To) (x : Ending) (w' : World) : Prop := ∃ (g : Nd) (gs : To) (o1 : Option Addr) (l1 c1 : Nat) (o2 : Option Addr) (l2 c2 : Nat) (p : Int × Int) (er : Int), x = .returned (.tuple #[tmv g o1 l1 c1 o2 l2 c2, .agg #[.int .i64 p.1, .int .i64 p.2], .int .i64 er]) ∧ rsvP h ps = ((g, gs), p, er) ∧
  SlcIn (fun b => w.heap.size ≤ b) w' o1 l1 g.tp ∧ TSlc (fun b => w.heap.size ≤ b) w' o2 l2 gs ∧ Quiet0 w w'
def put2 (w : World) (B : Nat) (u v : Value) : World := (w.setCell ⟨B, 0, none⟩ u).setCell ⟨B, 1, none⟩ v
theorem put2_fr (w : World) (B : Nat) (u v : Value) : Fr (fun k => k = B) w (put2 w B u v) := (Fr.setCell (fun k => k = B) w ⟨B, 0, none⟩ u rfl).trans (Fr.setCell (fun k => k = B) _ ⟨B, 1, none⟩ v rfl)
theorem put2_block {w : World} {B : Nat} {u v a b : Value} {t : TypeId} (h : w.heap[B]? = some (.cells #[a, b] t (0, 0))) : (put2 w B u v).heap[B]? = some (.cells #[u, v] t (0, 0)) := set_block (i := 1) (u := v) (set_block (i := 0) (u := u) h)
theorem span_cells {w : World} {B : Nat} {a b : Value} {t : TypeId} (h : w.heap[B]? = some (.cells #[a, b] t (0, 0))) : w.cell? ⟨B, 0, none⟩ = some a ∧ w.cell? ⟨B, 1, none⟩ = some b ∧ w.frozen? ⟨B, 0, none⟩ = false ∧ w.frozen? ⟨B, 1, none⟩ = false := by
  refine ⟨?_, ?_, ?_, ?_⟩
  · rw [cell_of_row _ _ _ _ _ (0, 0) h]; rfl
  · rw [cell_of_row _ _ _ _ _ (0, 0) h]; rfl
  · simp [World.frozen?, h]
  · simp [World.frozen?, h]
set_option maxRecDepth 100000 in
set_option maxHeartbeats 4000000 in
theorem resolve_any (h : Nd) (ps : To) (w : World) (R : Nat → Prop) (o1 : Option Addr) (l1 c1 : Nat) (o2 : Option Addr) (l2 c2 : Nat) (hs1 : SlcIn R w o1 l1 h.tp) (hs : TSlc R w o2 l2 ps) (hz : ps.size ≤ 100000) (hg : allT GoodH (.cons h ps .nil)) (ht : Lx.Spaces w) :
    Calls Tryd.prog 13 #[tmv h o1 l1 c1 o2 l2 c2] w (RsvQ w h ps) := by
  obtain ⟨W0, hW0⟩ : ∃ W0, W0 = ((w.alloc (.cells (cells9 h o1 l1 c1 o2 l2 c2) 30)).alloc (.cells zero9 30)).alloc (.cells #[.int .i64 0, .int .i64 0] 28) := ⟨_, rfl⟩
  have HQ0 : Hid (Quiet0 w W0) := by rw [hW0]; exact ((Quiet0.alloc _ _).trans (Quiet0.alloc _ _)).trans (Quiet0.alloc _ _)
  have HB0 : Hid (W0.heap[w.heap.size]? = some (.cells (cells9 h o1 l1 c1 o2 l2 c2) 30 (0, 0))) := by
    show _ = _; rw [hW0, Below.heap_alloc _ _ _ (by simp; omega), Below.heap_alloc _ _ _ (by simp)]; exact heap_alloc_new w _
  have HB1 : Hid (W0.heap[w.heap.size + 1]? = some (.cells zero9 30 (0, 0))) := by
    show _ = _; rw [hW0, Below.heap_alloc _ _ _ (by simp)]
    have := heap_alloc_new (w.alloc (.cells (cells9 h o1 l1 c1 o2 l2 c2) 30)) (.cells zero9 30)
    simpa using this
  have HB2 : Hid (W0.heap[w.heap.size + 2]? = some (.cells #[.int .i64 0, .int .i64 0] 28 (0, 0))) := by
    show _ = _; rw [hW0]
    have := heap_alloc_new ((w.alloc (.cells (cells9 h o1 l1 c1 o2 l2 c2) 30)).alloc (.cells zero9 30)) (.cells #[.int .i64 0, .int .i64 0] 28)
    simpa using this
  have HR := Lib.hid (rightTm_any h ps W0 R o1 l1 c1 o2 l2 c2 (hs1.stay HQ0.out) (hs.stay HQ0.out) hz hg (ht.stay HQ0.out))
  have HC : Hid (∀ W, Quiet0 W0 W → Cells9 W w.heap.size 0 h o1 l1 c1 o2 l2 c2) := fun W hq => (cells9_block HB0.out).fr hq (fun h => h)
  have HP : Hid (∀ W, Quiet0 W0 W → W.heap[w.heap.size + 1]? = some (.cells zero9 30 (0, 0)) ∧ W.heap[w.heap.size + 2]? = some (.cells #[.int .i64 0, .int .i64 0] 28 (0, 0))) := fun W hq => ⟨blk_after hq HB1.out, blk_after hq HB2.out⟩
  have HFC : Hid (∀ W, Quiet0 W0 W → varOk h ps → allV ps → Calls Tryd.prog 39 #[tmv h o1 l1 c1 o2 l2 c2] W (ListQ W (free1 [] h ps))) := fun W hq h1 h2 => free_any h ps W R o1 l1 c1 o2 l2 c2 (hs1.stay (HQ0.out.trans hq)) (hs.stay (HQ0.out.trans hq)) hz h1 h2
  have HRC : Hid (∀ W, Quiet0 W0 W → varOk h ps → allV ps → Calls Tryd.prog 40 #[tmv h o1 l1 c1 o2 l2 c2] W (TmQ W (resH h ps) (resP h ps))) := fun W hq h1 h2 => resolved_any h ps W R o1 l1 c1 o2 l2 c2 (hs1.stay (HQ0.out.trans hq)) (hs.stay (HQ0.out.trans hq)) hz h1 h2 (by have := hg.1.2.1; omega) (allT_mono (fun h hh => by have := hh.2.1; omega) _ hg.2.1)
  change Hid (Calls _ _ _ _ (fun e w' => e = .returned (.bool (RT h ps)) ∧ _)) at HR
  clear hs1 hs hg ht
  unfold tmv at HR HFC HRC ⊢
  cases hr : RT h ps
  case false =>
    rw [hr] at HR
    have HE : Hid (rsvP h ps = ((zeroN, .nil), (0, 0), 1)) := by show _ = _; unfold rsvP; rw [hr]; rfl
    go_enter Tryd.func13, Tryd.ntmps13
    go_upto_region 1 with fail
    rw [← hW0]
    clear hW0
    generalize hB : w.heap.size = B at *
    have HBE := Lib.hid hB
    clear hB
    obtain ⟨a0, a1, a2, a3, a4, a5, a6, a7, a8⟩ := HC.out W0 (Quiet0.refl _)
    go_wp2_with fail
    refine HR.out.mono ?_; rintro x w1 ⟨rfl, hq1⟩
    obtain ⟨hb1, hb2⟩ := HP.out w1 hq1
    have HK1 := Lib.hid hb1
    have HK2 := Lib.hid hb2
    have HQ1 := Lib.hid (HQ0.out.trans hq1)
    obtain ⟨⟨z0, z1, z2, z3, z4, z5, z6, z7, z8⟩, t0, t1, t2, t3, t4, t5, t6, t7, t8⟩ := block9 hb1
    obtain ⟨p0, p1, p2, p3⟩ := span_cells hb2
    clear hb1 hb2 hq1 a0 a1 a2 a3 a4 a5 a6 a7 a8
    go_wp2_with fail
    clear z0 z1 z2 z3 z4 z5 z6 z7 z8 t0 t1 t2 t3 t4 t5 t6 t7 t8 p0 p1 p2 p3
    have hbf := put9_block (a0 := .int .i64 0) (a1 := .string ⟨#[]⟩) (a2 := .int .i64 0) (a3 := .int .i64 0) (a4 := .int .i64 0) (a5 := .slice none 0 0) (a6 := .slice none 0 0) (a7 := .int .i64 0) (a8 := .int .i64 0) HK1.out
    have hf9 := put9_fr w1 (B + 1) (.int .i64 0) (.string ⟨#[]⟩) (.int .i64 0) (.int .i64 0) (.int .i64 0) (.slice none 0 0) (.slice none 0 0) (.int .i64 0) (.int .i64 0)
    have hb2f := blk_fr hf9 (by omega) HK2.out
    have hf2 := put2_fr (put9 w1 (B + 1) (.int .i64 0) (.string ⟨#[]⟩) (.int .i64 0) (.int .i64 0) (.int .i64 0) (.slice none 0 0) (.slice none 0 0) (.int .i64 0) (.int .i64 0)) (B + 2) (.int .i64 0) (.int .i64 0)
    have hbg := blk_fr hf2 (by omega) hbf
    have hbh := put2_block (u := .int .i64 0) (v := .int .i64 0) hb2f
    have hff : Fr (fun k => k = B + 1 ∨ k = B + 2) w1 (put2 (put9 w1 (B + 1) (.int .i64 0) (.string ⟨#[]⟩) (.int .i64 0) (.int .i64 0) (.int .i64 0) (.slice none 0 0) (.slice none 0 0) (.int .i64 0) (.int .i64 0)) (B + 2) (.int .i64 0) (.int .i64 0)) := (hf9.mono (fun _ _ h => .inl h)).trans (hf2.mono (fun _ _ h => .inr h))
    change bodyPost _ _ _ _ _ (put2 (put9 w1 (B + 1) (.int .i64 0) (.string ⟨#[]⟩) (.int .i64 0) (.int .i64 0) (.int .i64 0) (.slice none 0 0) (.slice none 0 0) (.int .i64 0) (.int .i64 0)) (B + 2) (.int .i64 0) (.int .i64 0))
    clear hbf hf9 hb2f hf2
    generalize (put2 (put9 w1 (B + 1) (.int .i64 0) (.string ⟨#[]⟩) (.int .i64 0) (.int .i64 0) (.int .i64 0) (.slice none 0 0) (.slice none 0 0) (.int .i64 0) (.int .i64 0)) (B + 2) (.int .i64 0) (.int .i64 0)) = wf at *
    obtain ⟨⟨x0, x1, x2, x3, x4, x5, x6, x7, x8⟩, _⟩ := block9 hbg
    have s0 := (cell_of_row _ (B + 2) 0 _ _ (0, 0) hbh).trans (show _ = some (Value.int .i64 0) from rfl)
    have s1 := (cell_of_row _ (B + 2) 1 _ _ (0, 0) hbh).trans (show _ = some (Value.int .i64 0) from rfl)
    have HFIN : Hid (RsvQ w h ps (.returned (.tuple #[.agg #[.int .i64 0, .string ⟨#[]⟩, .int .i64 0, .int .i64 0, .int .i64 0, .slice none 0 0, .slice none 0 0, .int .i64 0, .int .i64 0], .agg #[.int .i64 0, .int .i64 0], .int .i64 1])) wf) := by
      have hB := HBE.out
      exact ⟨zeroN, .nil, none, 0, 0, none, 0, 0, (0, 0), 1, rfl, HE.out, SlcIn.nil _ _ _, TSlc.nil _ _ _, HQ1.out.trans' hff (fun k hk h => by omega)⟩
    clear hff hbg hbh
    refine bodyPost_ret (by simp [results, Tryd.results13, go_sem, x0, x1, x2, x3, x4, x5, x6, x7, x8, s0, s1]; rfl) rfl ?_
    exact HFIN.out
  case true =>
    rw [hr] at HR
    obtain ⟨hv, hok, _⟩ := RT_ok hr
    have hav := okF_allV ps hok
    have HFW : Hid (∀ W, Quiet0 W0 W → Calls Tryd.prog 39 #[.agg #[.int .i64 h.k, .string h.nm, .int .i64 h.n, .int .i64 h.tk, .int .i64 h.tn, .slice o1 l1 c1, .slice o2 l2 c2, .int .i64 h.fr, .int .i64 h.en]] W (ListQ W (free1 [] h ps))) := fun W hq => HFC.out W hq hv hav
    have HRW : Hid (∀ W, Quiet0 W0 W → Calls Tryd.prog 40 #[.agg #[.int .i64 h.k, .string h.nm, .int .i64 h.n, .int .i64 h.tk, .int .i64 h.tn, .slice o1 l1 c1, .slice o2 l2 c2, .int .i64 h.fr, .int .i64 h.en]] W (TmQ W (resH h ps) (resP h ps))) := fun W hq => HRC.out W hq hv hav
    have hE0 : rsvP h ps = (match free1 [] h ps with
      | [] => ((resH h ps, resP h ps), (0, 0), 0)
      | x :: _ => ((zeroN, .nil), (x.fr, x.en), 5)) := by unfold rsvP; rw [hr]; rfl
    have HLZ : Hid ((free1 [] h ps).length ≤ 100001) := by have := free1_len [] h ps; show _ ≤ _; omega
    clear HFC HRC hv hok hav
    generalize free1 [] h ps = L at *
    cases L with
    | nil =>
      have HE : Hid (rsvP h ps = ((resH h ps, resP h ps), (0, 0), 0)) := hE0
      clear hE0
      generalize resH h ps = g at *
      generalize resP h ps = gs at *
      go_enter Tryd.func13, Tryd.ntmps13
      go_upto_region 1 with fail
      rw [← hW0]
      clear hW0
      generalize hB : w.heap.size = B at *
      have HBE := Lib.hid hB
      clear hB
      obtain ⟨a0, a1, a2, a3, a4, a5, a6, a7, a8⟩ := HC.out W0 (Quiet0.refl _)
      go_wp2_with fail
      refine HR.out.mono ?_; rintro x w1 ⟨rfl, hq1⟩
      clear a0 a1 a2 a3 a4 a5 a6 a7 a8
      obtain ⟨a0, a1, a2, a3, a4, a5, a6, a7, a8⟩ := HC.out w1 hq1
      have HQ1 := Lib.hid hq1
      clear hq1
      go_wp2_with fail
      refine (HFW.out w1 HQ1.out).mono ?_; rintro x w2 ⟨o, c, xs, rfl, hl, hq2⟩
      have HQ2 := Lib.hid (HQ1.out.trans hq2)
      clear hl hq2 a0 a1 a2 a3 a4 a5 a6 a7 a8
      obtain ⟨a0, a1, a2, a3, a4, a5, a6, a7, a8⟩ := HC.out w2 HQ2.out
      go_wp2_with fail
      refine (HRW.out w2 HQ2.out).mono ?_; rintro x w3 ⟨q1, m1, d1, q2, m2, d2, rfl, hg1, hg2, hq3⟩
      have HQ3 := Lib.hid (HQ2.out.trans hq3)
      have HG1 := Lib.hid hg1
      have HG2 := Lib.hid hg2
      have hz2 := HQ2.out.size
      have HZ0 : Hid (B + 3 ≤ W0.heap.size) := by show _ ≤ _; have := lt_of_block HB2.out; omega
      clear hq3 hg1 hg2 a0 a1 a2 a3 a4 a5 a6 a7 a8
      unfold tmv
      obtain ⟨hb1, hb2⟩ := HP.out w3 HQ3.out
      have HK1 := Lib.hid hb1
      have HK2 := Lib.hid hb2
      obtain ⟨⟨z0, z1, z2, z3, z4, z5, z6, z7, z8⟩, t0, t1, t2, t3, t4, t5, t6, t7, t8⟩ := block9 hb1
      obtain ⟨p0, p1, p2, p3⟩ := span_cells hb2
      clear hb1 hb2
      go_wp2_with fail
      clear z0 z1 z2 z3 z4 z5 z6 z7 z8 t0 t1 t2 t3 t4 t5 t6 t7 t8 p0 p1 p2 p3
      have hbf := put9_block (a0 := .int .i64 g.k) (a1 := .string g.nm) (a2 := .int .i64 g.n) (a3 := .int .i64 g.tk) (a4 := .int .i64 g.tn) (a5 := .slice q1 m1 d1) (a6 := .slice q2 m2 d2) (a7 := .int .i64 g.fr) (a8 := .int .i64 g.en) HK1.out
      have hf9 := put9_fr w3 (B + 1) (.int .i64 g.k) (.string g.nm) (.int .i64 g.n) (.int .i64 g.tk) (.int .i64 g.tn) (.slice q1 m1 d1) (.slice q2 m2 d2) (.int .i64 g.fr) (.int .i64 g.en)
      have hb2f := blk_fr hf9 (by omega) HK2.out
      have hf2 := put2_fr (put9 w3 (B + 1) (.int .i64 g.k) (.string g.nm) (.int .i64 g.n) (.int .i64 g.tk) (.int .i64 g.tn) (.slice q1 m1 d1) (.slice q2 m2 d2) (.int .i64 g.fr) (.int .i64 g.en)) (B + 2) (.int .i64 0) (.int .i64 0)
      have hbg := blk_fr hf2 (by omega) hbf
      have hbh := put2_block (u := .int .i64 0) (v := .int .i64 0) hb2f
      have hff : Fr (fun k => k = B + 1 ∨ k = B + 2) w3 (put2 (put9 w3 (B + 1) (.int .i64 g.k) (.string g.nm) (.int .i64 g.n) (.int .i64 g.tk) (.int .i64 g.tn) (.slice q1 m1 d1) (.slice q2 m2 d2) (.int .i64 g.fr) (.int .i64 g.en)) (B + 2) (.int .i64 0) (.int .i64 0)) := (hf9.mono (fun _ _ h => .inl h)).trans (hf2.mono (fun _ _ h => .inr h))
      change bodyPost _ _ _ _ _ (put2 (put9 w3 (B + 1) (.int .i64 g.k) (.string g.nm) (.int .i64 g.n) (.int .i64 g.tk) (.int .i64 g.tn) (.slice q1 m1 d1) (.slice q2 m2 d2) (.int .i64 g.fr) (.int .i64 g.en)) (B + 2) (.int .i64 0) (.int .i64 0))
      clear hbf hf9 hb2f hf2
      generalize (put2 (put9 w3 (B + 1) (.int .i64 g.k) (.string g.nm) (.int .i64 g.n) (.int .i64 g.tk) (.int .i64 g.tn) (.slice q1 m1 d1) (.slice q2 m2 d2) (.int .i64 g.fr) (.int .i64 g.en)) (B + 2) (.int .i64 0) (.int .i64 0)) = wf at *
      obtain ⟨⟨x0, x1, x2, x3, x4, x5, x6, x7, x8⟩, _⟩ := block9 hbg
      have s0 := (cell_of_row _ (B + 2) 0 _ _ (0, 0) hbh).trans (show _ = some (Value.int .i64 0) from rfl)
      have s1 := (cell_of_row _ (B + 2) 1 _ _ (0, 0) hbh).trans (show _ = some (Value.int .i64 0) from rfl)
      have HFIN : Hid (RsvQ w h ps (.returned (.tuple #[.agg #[.int .i64 g.k, .string g.nm, .int .i64 g.n, .int .i64 g.tk, .int .i64 g.tn, .slice q1 m1 d1, .slice q2 m2 d2, .int .i64 g.fr, .int .i64 g.en], .agg #[.int .i64 0, .int .i64 0], .int .i64 0])) wf) := by
        have hB := HBE.out
        have hz0 := HZ0.out
        have key : ∀ k, w2.heap.size ≤ k → w.heap.size ≤ k ∧ ¬ (k = B + 1 ∨ k = B + 2) := fun k hk => by omega
        exact ⟨g, gs, q1, m1, d1, q2, m2, d2, (0, 0), 0, rfl, HE.out, HG1.out.fr hff (fun k _ hk => key k hk), HG2.out.fr hff (fun k _ hk => key k hk), (HQ0.out.trans HQ3.out).trans' hff (fun k hk h => by omega)⟩
      clear hff hbg hbh
      refine bodyPost_ret (by simp [results, Tryd.results13, go_sem, x0, x1, x2, x3, x4, x5, x6, x7, x8, s0, s1]; rfl) rfl ?_
      exact HFIN.out
    | cons y L' =>
      have HE : Hid (rsvP h ps = ((zeroN, .nil), (y.fr, y.en), 5)) := hE0
      clear hE0 HRW
      have hpos : ((y :: L').length : Int) > 0 := by simp <;> omega
      have hpos' : (0 : Int) < ((y :: L').length : Int) := hpos
      generalize hn : (y :: L').length = n at *
      have HN := Lib.hid hn
      clear hn
      go_enter Tryd.func13, Tryd.ntmps13
      go_upto_region 1 with fail
      rw [← hW0]
      clear hW0
      generalize hB : w.heap.size = B at *
      have HBE := Lib.hid hB
      clear hB
      obtain ⟨a0, a1, a2, a3, a4, a5, a6, a7, a8⟩ := HC.out W0 (Quiet0.refl _)
      go_wp2_with fail
      refine HR.out.mono ?_; rintro x w1 ⟨rfl, hq1⟩
      clear a0 a1 a2 a3 a4 a5 a6 a7 a8
      obtain ⟨a0, a1, a2, a3, a4, a5, a6, a7, a8⟩ := HC.out w1 hq1
      have HQ1 := Lib.hid hq1
      clear hq1
      go_wp2_with fail
      refine (HFW.out w1 HQ1.out).mono ?_; rintro x w2 ⟨o, c, xs, rfl, hl, hq2⟩
      have HQ2 := Lib.hid (HQ0.out.trans (HQ1.out.trans hq2))
      obtain ⟨g9, off, u1, v1, e1, u2, v2, e2, rfl, ⟨f0, f1, f2, f3, f4, f5, f6, f7, f8⟩⟩ := hl.heads 0 y rfl
      have hg9 := hl.2.2 g9 rfl
      have hz0 := lt_of_block HB2.out
      have hz1 := HQ1.out.size
      have hn1 : B + 1 ≠ g9 := by omega
      have hn2 : B + 2 ≠ g9 := by omega
      have hn3 : g9 ≠ B + 1 := by omega
      have hn4 : g9 ≠ B + 2 := by omega
      obtain ⟨hb1, hb2⟩ := HP.out w2 (HQ1.out.trans hq2)
      have HK1 := Lib.hid hb1
      have HK2 := Lib.hid hb2
      rw [HN.out]
      obtain ⟨⟨z0, z1, z2, z3, z4, z5, z6, z7, z8⟩, t0, t1, t2, t3, t4, t5, t6, t7, t8⟩ := block9 hb1
      obtain ⟨p0, p1, p2, p3⟩ := span_cells hb2
      clear hb1 hb2 hl hq2 a0 a1 a2 a3 a4 a5 a6 a7 a8
      rw [Nat.zero_mul, Nat.add_zero] at f0 f1 f2 f3 f4 f5 f6 f7 f8
      go_upto_region 5 with fail
      go_region
      go_wp2_with fail
      clear z0 z1 z2 z3 z4 z5 z6 z7 z8 t0 t1 t2 t3 t4 t5 t6 t7 t8 p0 p1 p2 p3
      have hbf := put9_block (a0 := .int .i64 0) (a1 := .string ⟨#[]⟩) (a2 := .int .i64 0) (a3 := .int .i64 0) (a4 := .int .i64 0) (a5 := .slice none 0 0) (a6 := .slice none 0 0) (a7 := .int .i64 0) (a8 := .int .i64 0) HK1.out
      have hf9 := put9_fr w2 (B + 1) (.int .i64 0) (.string ⟨#[]⟩) (.int .i64 0) (.int .i64 0) (.int .i64 0) (.slice none 0 0) (.slice none 0 0) (.int .i64 0) (.int .i64 0)
      have hb2f := blk_fr hf9 (by omega) HK2.out
      have hf2 := put2_fr (put9 w2 (B + 1) (.int .i64 0) (.string ⟨#[]⟩) (.int .i64 0) (.int .i64 0) (.int .i64 0) (.slice none 0 0) (.slice none 0 0) (.int .i64 0) (.int .i64 0)) (B + 2) (.int .i64 y.fr) (.int .i64 y.en)
      have hbg := blk_fr hf2 (by omega) hbf
      have hbh := put2_block (u := .int .i64 y.fr) (v := .int .i64 y.en) hb2f
      have hff : Fr (fun k => k = B + 1 ∨ k = B + 2) w2 (put2 (put9 w2 (B + 1) (.int .i64 0) (.string ⟨#[]⟩) (.int .i64 0) (.int .i64 0) (.int .i64 0) (.slice none 0 0) (.slice none 0 0) (.int .i64 0) (.int .i64 0)) (B + 2) (.int .i64 y.fr) (.int .i64 y.en)) := (hf9.mono (fun _ _ h => .inl h)).trans (hf2.mono (fun _ _ h => .inr h))
      replace hbg := blk_drew hbg
      replace hbh := blk_drew hbh
      replace hff := hff.trans (Fr.drew (fun k => k = B + 1 ∨ k = B + 2) (put2 (put9 w2 (B + 1) (.int .i64 0) (.string ⟨#[]⟩) (.int .i64 0) (.int .i64 0) (.int .i64 0) (.slice none 0 0) (.slice none 0 0) (.int .i64 0) (.int .i64 0)) (B + 2) (.int .i64 y.fr) (.int .i64 y.en)))
      change bodyPost _ _ _ _ _ ((put2 (put9 w2 (B + 1) (.int .i64 0) (.string ⟨#[]⟩) (.int .i64 0) (.int .i64 0) (.int .i64 0) (.slice none 0 0) (.slice none 0 0) (.int .i64 0) (.int .i64 0)) (B + 2) (.int .i64 y.fr) (.int .i64 y.en))).drew
      clear hbf hf9 hb2f hf2
      generalize ((put2 (put9 w2 (B + 1) (.int .i64 0) (.string ⟨#[]⟩) (.int .i64 0) (.int .i64 0) (.int .i64 0) (.slice none 0 0) (.slice none 0 0) (.int .i64 0) (.int .i64 0)) (B + 2) (.int .i64 y.fr) (.int .i64 y.en))).drew = wf at *
      obtain ⟨⟨x0, x1, x2, x3, x4, x5, x6, x7, x8⟩, _⟩ := block9 hbg
      have s0 := (cell_of_row _ (B + 2) 0 _ _ (0, 0) hbh).trans (show _ = some (Value.int .i64 y.fr) from rfl)
      have s1 := (cell_of_row _ (B + 2) 1 _ _ (0, 0) hbh).trans (show _ = some (Value.int .i64 y.en) from rfl)
      have HFIN : Hid (RsvQ w h ps (.returned (.tuple #[.agg #[.int .i64 0, .string ⟨#[]⟩, .int .i64 0, .int .i64 0, .int .i64 0, .slice none 0 0, .slice none 0 0, .int .i64 0, .int .i64 0], .agg #[.int .i64 y.fr, .int .i64 y.en], .int .i64 5])) wf) := by
        have hB := HBE.out
        exact ⟨zeroN, .nil, none, 0, 0, none, 0, 0, (y.fr, y.en), 5, rfl, HE.out, SlcIn.nil _ _ _, TSlc.nil _ _ _, HQ2.out.trans' hff (fun k hk h => by omega)⟩
      clear hff hbg hbh
      refine bodyPost_ret (by simp [results, Tryd.results13, go_sem, x0, x1, x2, x3, x4, x5, x6, x7, x8, s0, s1]; rfl) rfl ?_
      exact HFIN.out
end Sc
end Go.Proofs.YtnfodiedalhlhaaDoor
end
section
/-
  The laws' awake of chapter 08. Condition: the table of blanks holds what its initialiser lays.
-/
namespace Go.Proofs.YtnfodiedalhlhaaDoor
open Go.RowKit Go.Shelf
namespace Sc

abbrev xN : Nd := ⟨1, ⟨#[120]⟩, 0, 0, 0, .nil, 0, 0⟩
abbrev xN1 : Nd := ⟨1, ⟨#[120]⟩, 1, 0, 0, .nil, 0, 0⟩
abbrev lamY : Nd := ⟨4, ⟨#[121]⟩, 0, 0, 0, .nil, 0, 0⟩
abbrev lamX : Nd := ⟨4, ⟨#[120]⟩, 0, 0, 0, .nil, 0, 0⟩
abbrev lamP : To := .cons lamY (.cons xN .nil .nil) .nil
abbrev lamR : To := .cons lamY (.cons xN1 .nil .nil) .nil
theorem x_right : RT xN .nil = true := by decide +kernel
theorem lam_right : RT lamX lamP = true := by decide +kernel
theorem x_free : free1 [] xN .nil = [xN] := rfl
theorem lam_free : free1 [] lamX lamP = [] := rfl
theorem lam_res : resH lamX lamP = lamX ∧ resP lamX lamP = lamR := ⟨rfl, rfl⟩
theorem x_rsv : rsvP xN .nil = ((zeroN, .nil), (0, 0), 5) := by unfold rsvP; rw [if_pos x_right, x_free]
theorem lam_rsv : rsvP lamX lamP = ((lamX, lamR), (0, 0), 0) := by unfold rsvP; rw [if_pos lam_right, lam_free, lam_res.1, lam_res.2]
theorem lam_good : allT GoodH (.cons lamX lamP .nil) := by
  have h : ∀ k nm, nm.size ≤ 100000 → GoodH ⟨k, nm, 0, 0, 0, .nil, 0, 0⟩ := fun k nm hn => ⟨hn, Nat.zero_le _, (by decide : (Lit.int .i64 0).wf = true), trivial⟩
  exact ⟨h _ _ (by decide), ⟨h _ _ (by decide), ⟨h _ _ (by decide), trivial, trivial⟩, trivial⟩, trivial⟩
theorem x_good : allT GoodH (.cons xN .nil .nil) := by
  have h : ∀ k nm, nm.size ≤ 100000 → GoodH ⟨k, nm, 0, 0, 0, .nil, 0, 0⟩ := fun k nm hn => ⟨hn, Nat.zero_le _, (by decide : (Lit.int .i64 0).wf = true), trivial⟩
  exact ⟨h _ _ (by decide), trivial, trivial⟩
set_option maxHeartbeats 4000000 in
set_option maxRecDepth 100000 in
theorem awake8_any (w : World) (ht : Lx.Spaces w) : Calls Tryd.prog 11 #[] w fun e w' => e = .returned (.bool true) ∧ Quiet0 w w' := by
  have HT := Lib.hid ht
  obtain ⟨W1, hW1⟩ : ∃ W1, W1 = w.alloc (.cells (cells9 xN none 0 0 none 0 0) 30) := ⟨_, rfl⟩
  obtain ⟨W3, hW3⟩ : ∃ W3, W3 = (W1.alloc (.cells (cells9 xN none 0 0 none 0 0) 30)).alloc (.cells (cells9 lamY none 0 0 (some ⟨W1.heap.size, 0, none⟩) 1 1) 30) := ⟨_, rfl⟩
  have hq1 : Quiet0 w W1 := by rw [hW1]; exact Quiet0.alloc _ _
  have hq3 : Quiet0 W1 W3 := by rw [hW3]; exact (Quiet0.alloc _ _).trans (Quiet0.alloc _ _)
  have hb1 : W1.heap[w.heap.size]? = some (.cells (cells9 xN none 0 0 none 0 0) 30 (0, 0)) := by rw [hW1]; exact heap_alloc_new w _
  have hx3 : W3.heap[W1.heap.size]? = some (.cells (cells9 xN none 0 0 none 0 0) 30 (0, 0)) := by
    rw [hW3, Below.heap_alloc _ _ _ (by simp)]; exact heap_alloc_new W1 _
  have hy3 : W3.heap[W1.heap.size + 1]? = some (.cells (cells9 lamY none 0 0 (some ⟨W1.heap.size, 0, none⟩) 1 1) 30 (0, 0)) := by
    rw [hW3]
    have := heap_alloc_new (W1.alloc (.cells (cells9 xN none 0 0 none 0 0) 30)) (.cells (cells9 lamY none 0 0 (some ⟨W1.heap.size, 0, none⟩) 1 1) 30)
    simpa using this
  have hsl : TSlc (fun _ => True) W3 (some ⟨W1.heap.size + 1, 0, none⟩) 1 lamP :=
    ⟨rfl, by decide, fun _ => ⟨_, 0, rfl, trivial, ⟨none, 0, 0, some ⟨W1.heap.size, 0, none⟩, 1, 1, cells9_block hy3, SlcIn.nil _ _ _, rfl, by decide, fun _ => ⟨_, 0, rfl, trivial, ⟨none, 0, 0, none, 0, 0, cells9_block hx3, SlcIn.nil _ _ _, rfl, by decide, fun h => absurd h (Nat.lt_irrefl _)⟩, trivial⟩⟩, trivial⟩⟩
  have HC := Lib.hid (resolve_any lamX lamP W3 (fun _ => True) none 0 0 (some ⟨W1.heap.size + 1, 0, none⟩) 1 1 (SlcIn.nil _ _ _) hsl (by decide) lam_good (ht.stay (hq1.trans hq3)))
  have HCX : Hid (∀ W, Quiet0 w W → Calls Tryd.prog 13 #[.agg #[.int .i64 1, .string ⟨#[120]⟩, .int .i64 0, .int .i64 0, .int .i64 0, .slice none 0 0, .slice none 0 0, .int .i64 0, .int .i64 0]] W (RsvQ W xN .nil)) := fun W hq => resolve_any xN .nil W (fun _ => True) none 0 0 none 0 0 (SlcIn.nil _ _ _) (TSlc.nil _ _ _) (by decide) x_good (ht.stay hq)
  have HQ3 := Lib.hid (hq1.trans hq3)
  have HB1 : Hid (∀ W, Quiet0 W3 W → Cells9 W w.heap.size 0 xN none 0 0 none 0 0) := fun W hq => (cells9_block hb1).fr (hq3.trans hq) (fun h => h)
  obtain ⟨a0, a1, a2, a3, a4, a5, a6, a7, a8⟩ := cells9_block hb1
  have HZ3 : Hid (W3.heap.size = W1.heap.size + 2) := by show _ = _; rw [hW3]; simp
  unfold tmv at HC
  clear hq1 hq3 hb1 hx3 hy3 hsl ht
  go_enter Tryd.func11, Tryd.ntmps11
  go_upto_region 2 with fail
  change Code.wp _ _ _ _ (w.alloc (.cells (cells9 xN none 0 0 none 0 0) 30))
  rw [← hW1]
  clear hW1
  go_wp2_with fail
  change Calls _ _ _ ((W1.alloc (.cells (cells9 xN none 0 0 none 0 0) 30)).alloc (.cells (cells9 lamY none 0 0 (some ⟨W1.heap.size, 0, none⟩) 1 1) 30)) _
  rw [← hW3]
  clear hW3 a0 a1 a2 a3 a4 a5 a6 a7 a8
  refine HC.out.mono ?_; rintro x w4 ⟨g, gs, q1, m1, d1, q2, m2, d2, p, er, rfl, hr, hg1, hg2, hq4⟩
  rw [lam_rsv] at hr
  obtain ⟨hr1, hr2⟩ := Prod.mk.inj hr
  obtain ⟨hr3, hr4⟩ := Prod.mk.inj hr1
  obtain ⟨hr5, hr6⟩ := Prod.mk.inj hr2
  subst hr3 hr4 hr5 hr6
  obtain rfl : m1 = 0 := hg1.1
  obtain rfl : m2 = 1 := hg2.1
  have HQ4 := Lib.hid hq4
  have HG2 := Lib.hid hg2
  clear hr hr1 hr2 hg1 hg2 hq4
  unfold tmv
  obtain ⟨W5, hW5⟩ : ∃ W5, W5 = (w4.alloc (.cells (cells9 lamX q1 0 d1 q2 1 d2) 30)).alloc (.cells #[.int .i64 0, .int .i64 0] 28) := ⟨_, rfl⟩
  have hq5 : Quiet0 w4 W5 := by rw [hW5]; exact (Quiet0.alloc _ _).trans (Quiet0.alloc _ _)
  have hb5 : W5.heap[w4.heap.size]? = some (.cells (cells9 lamX q1 0 d1 q2 1 d2) 30 (0, 0)) := by
    rw [hW5, Below.heap_alloc _ _ _ (by simp)]; exact heap_alloc_new w4 _
  have HB5 : Hid (∀ W, Quiet0 W5 W → Cells9 W w4.heap.size 0 lamX q1 0 d1 q2 1 d2) := fun W hq => (cells9_block hb5).fr hq (fun h => h)
  have HQ5 := Lib.hid hq5
  have HG5 := Lib.hid (HG2.out.stay hq5)
  clear hq5 hb5
  go_upto_region 3 with fail
  change Code.wp _ _ _ _ ((w4.alloc (.cells (cells9 lamX q1 0 d1 q2 1 d2) 30)).alloc (.cells #[.int .i64 0, .int .i64 0] 28))
  rw [← hW5]
  clear hW5
  generalize w4.heap.size = tb at *
  obtain ⟨a0, a1, a2, a3, a4, a5, a6, a7, a8⟩ := HB1.out W5 (HQ4.out.trans HQ5.out)
  go_wp2_with fail
  refine (HCX.out W5 (HQ3.out.trans (HQ4.out.trans HQ5.out))).mono ?_; rintro x w6 ⟨g, gs, u1, v1, e1, u2, v2, e2, p, er, rfl, hr, hg1, hg2, hq6⟩
  rw [x_rsv] at hr
  obtain ⟨hr1, hr2⟩ := Prod.mk.inj hr
  obtain ⟨hr3, hr4⟩ := Prod.mk.inj hr1
  obtain ⟨hr5, hr6⟩ := Prod.mk.inj hr2
  subst hr3 hr4 hr5 hr6
  have HQ6 := Lib.hid hq6
  clear hr hr1 hr2 hg1 hg2 hq6 a0 a1 a2 a3 a4 a5 a6 a7 a8
  unfold tmv
  obtain ⟨W7, hW7⟩ : ∃ W7, W7 = (w6.alloc (.cells (cells9 zeroN u1 v1 e1 u2 v2 e2) 30)).alloc (.cells #[.int .i64 0, .int .i64 0] 28) := ⟨_, rfl⟩
  have hq7 : Quiet0 w6 W7 := by rw [hW7]; exact (Quiet0.alloc _ _).trans (Quiet0.alloc _ _)
  have HQ7 := Lib.hid (HQ6.out.trans hq7)
  clear hq7
  go_upto_region 4 with fail
  change Code.wp _ _ _ _ ((w6.alloc (.cells (cells9 zeroN u1 v1 e1 u2 v2 e2) 30)).alloc (.cells #[.int .i64 0, .int .i64 0] 28))
  rw [← hW7]
  clear hW7
  obtain ⟨a0, a1, a2, a3, a4, a5, a6, a7, a8⟩ := HB5.out W7 HQ7.out
  obtain ⟨b9, off, hd, ps, r1, s1, t1, r2, s2, t2, rfl, hdr, hg, _, ⟨c0, c1, c2, c3, c4, c5, c6, c7, c8⟩, _, ht2⟩ := (HG5.out.stay HQ7.out).nth (i := 0) (by decide)
  obtain ⟨hh1, hh2⟩ := Prod.mk.inj (Option.some.inj hg)
  subst hh1 hh2
  obtain rfl : s2 = 1 := ht2.1
  obtain ⟨b8, off8, hd, ps, r3, s3, t3, r4, s4, t4, rfl, _, hg', _, ⟨f0, f1, f2, f3, f4, f5, f6, f7, f8⟩, _, _⟩ := ht2.nth (i := 0) (by decide)
  obtain ⟨hh1, hh2⟩ := Prod.mk.inj (Option.some.inj hg')
  subst hh1 hh2
  rw [Nat.zero_mul, Nat.add_zero] at c0 c1 c2 c3 c4 c5 c6 c7 c8 f0 f1 f2 f3 f4 f5 f6 f7 f8
  clear hdr hg hg' ht2
  go_wp2_with fail
  go_ret
  exact ⟨rfl, HQ3.out.trans ((HQ4.out.trans HQ5.out).trans HQ7.out)⟩
end Sc
end Go.Proofs.YtnfodiedalhlhaaDoor
end
section
/-
  slices.Index and slices.Contains of texts. Condition: the texts lie in memory as told; there are few.
-/
namespace Go.Proofs.YtnfodiedalhlhaaDoor
open Go.RowKit Go.Shelf
namespace Sc

def hasB (l : List ByteArray) (s : ByteArray) : Bool := l.any (fun a => decide (a = s))
theorem hasB_iff (l : List ByteArray) (s : ByteArray) : hasB l s = true ↔ s ∈ l := by
  unfold hasB; rw [List.any_eq_true]
  constructor
  · rintro ⟨a, ha, h⟩; rw [decide_eq_true_eq] at h; rw [← h]; exact ha
  · intro h; exact ⟨s, h, by simp⟩
set_option maxHeartbeats 1000000 in
theorem slIndex_any (l : List ByteArray) (s : ByteArray) (o : Option Addr) (n c : Nat) (w : World) (h : StrAt w o l) (hn : l.length = n) (hz : n ≤ 1000000) : Calls Tryd.prog 80 #[.slice o n c, .string s] w fun x w' => (∃ k : Int, x = .returned (.int .i64 k) ∧ (0 ≤ k ↔ s ∈ l)) ∧ w = w' := by
  have H := Lib.hid h
  have HN := Lib.hid hn
  clear h hn
  go_enter Tryd.func80, Tryd.ntmps80
  go_wp2_with fail
  go_loopw [8] (fun t wr => ∃ i : Nat, t = .int .i64 i ∧ i ≤ n ∧ s ∉ l.take i ∧ w = wr) (fun t _ => n - (intOf t).toNat)
  case atStart => exact ⟨0, rfl, Nat.zero_le _, by simp, rfl⟩
  case round =>
    obtain ⟨i, rfl, hi, hns, rfl⟩ := hrel
    by_cases hlt : i < n
    · have hlt' : (i : Int) < n := by omega
      obtain ⟨a, ha⟩ : ∃ a, l[i]? = some a := ⟨_, List.getElem?_eq_getElem (by have := HN.out; omega)⟩
      obtain ⟨b, off, rfl, c0⟩ := H.out i a ha
      have HNS := Lib.hid hns
      have HA := Lib.hid ha
      clear hns ha
      cases hx : (s.toList == a.toList)
      · go_wp2_with fail
        go_roundw
        case rel => exact ⟨i + 1, by go_num, by omega, take_no HNS.out HA.out (fun e => by rw [str_eq.2 e.symm] at hx; cases hx), trivial⟩
        case measure => simp [intOf] <;> omega
      · have HR : Hid (s ∈ l) := by have e := str_eq.1 hx; subst e; exact List.mem_of_getElem? HA.out
        go_wp2_with fail
        go_ret
        exact ⟨⟨i, rfl, by constructor; (intro _; exact HR.out); (intro _; omega)⟩, rfl⟩
    · have hlt' : ¬ (i : Int) < n := by omega
      have HR : Hid (s ∉ l) := by show ¬ _; rw [List.take_of_length_le (by have := HN.out; omega)] at hns; exact hns
      clear hns
      go_wp2_with fail
      go_ret
      exact ⟨⟨-1, rfl, by constructor; (intro h; omega); (intro h; exact absurd h HR.out)⟩, rfl⟩
theorem contains_any (l : List ByteArray) (s : ByteArray) (o : Option Addr) (n c : Nat) (w : World) (h : StrAt w o l) (hn : l.length = n) (hz : n ≤ 1000000) : Calls Tryd.prog 45 #[.slice o n c, .string s] w fun x w' => x = .returned (.bool (hasB l s)) ∧ w = w' := by
  have HC := Lib.hid (slIndex_any l s o n c w h hn hz)
  clear h hn
  obtain ⟨P, hP⟩ : ∃ P, P = hasB l s := ⟨_, rfl⟩
  rw [← hP]
  have HP := Lib.hid hP
  clear hP
  go_enter Tryd.func45, Tryd.ntmps45
  go_wp2_with fail
  refine HC.out.mono ?_; rintro x w1 ⟨⟨k, rfl, hk⟩, rfl⟩
  have HK : Hid (P = decide (0 ≤ k)) := by show _ = _; rw [HP.out, Bool.eq_iff_iff, hasB_iff, decide_eq_true_eq]; exact hk.symm
  clear hk
  go_wp2_with fail
  go_ret
  exact ⟨by rw [HK.out]; rfl, rfl⟩
end Sc
end Go.Proofs.YtnfodiedalhlhaaDoor
end
section
/-
  scope.Free: the free names, each once. Conditions: the term lies in memory as told; there are few; the table of blanks holds what its initialiser lays.
-/
namespace Go.Proofs.YtnfodiedalhlhaaDoor
open Go.RowKit Go.Shelf
namespace Sc

def ddS (acc : List ByteArray) (s : ByteArray) : List ByteArray := if hasB acc s then acc else acc ++ [s]
def dd (l : List Nd) : List ByteArray := (l.map (·.nm)).foldl ddS []
theorem ddS_len (acc : List ByteArray) (s : ByteArray) : (ddS acc s).length ≤ acc.length + 1 := by unfold ddS; split <;> simp
/-- scope.Free's names -/
def freeN (h : Nd) (ps : To) : List ByteArray := if RT h ps then dd (free1 [] h ps) else []
set_option maxRecDepth 100000 in
set_option maxHeartbeats 4000000 in
theorem freeN_any (h : Nd) (ps : To) (w : World) (R : Nat → Prop) (o1 : Option Addr) (l1 c1 : Nat) (o2 : Option Addr) (l2 c2 : Nat) (hs1 : SlcIn R w o1 l1 h.tp) (hs : TSlc R w o2 l2 ps) (hz : ps.size ≤ 100000) (hg : allT GoodH (.cons h ps .nil)) (ht : Lx.Spaces w) :
    Calls Tryd.prog 18 #[tmv h o1 l1 c1 o2 l2 c2] w (StPost w (freeN h ps)) := by
  obtain ⟨W0, hW0⟩ : ∃ W0, W0 = w.alloc (.cells (cells9 h o1 l1 c1 o2 l2 c2) 30) := ⟨_, rfl⟩
  have HQ0 : Hid (Quiet0 w W0) := by rw [hW0]; exact Quiet0.alloc _ _
  have HC : Hid (∀ W, Quiet0 W0 W → Cells9 W w.heap.size 0 h o1 l1 c1 o2 l2 c2) := by
    intro W hq; rw [hW0] at hq; exact box9 w h o1 l1 c1 o2 l2 c2 _ W hq
  have HR := Lib.hid (rightTm_any h ps W0 R o1 l1 c1 o2 l2 c2 (hs1.stay HQ0.out) (hs.stay HQ0.out) hz hg (ht.stay HQ0.out))
  change Hid (Calls _ _ _ _ (fun e w' => e = .returned (.bool (RT h ps)) ∧ _)) at HR
  have HFC : Hid (∀ W, Quiet0 W0 W → varOk h ps → allV ps → Calls Tryd.prog 39 #[tmv h o1 l1 c1 o2 l2 c2] W (ListQ W (free1 [] h ps))) := fun W hq h1 h2 => free_any h ps W R o1 l1 c1 o2 l2 c2 (hs1.stay (HQ0.out.trans hq)) (hs.stay (HQ0.out.trans hq)) hz h1 h2
  clear hs1 hs hg ht
  unfold tmv at HR HFC ⊢
  cases hr : RT h ps
  case false =>
    rw [hr] at HR
    have HE : Hid (freeN h ps = []) := by show _ = _; unfold freeN; rw [hr]; rfl
    rw [HE.out]
    go_enter Tryd.func18, Tryd.ntmps18
    go_upto_region 1 with fail
    rw [← hW0]
    clear hW0
    obtain ⟨a0, a1, a2, a3, a4, a5, a6, a7, a8⟩ := HC.out W0 (Quiet0.refl _)
    go_wp2_with fail
    refine HR.out.mono ?_; rintro x w1 ⟨rfl, hq1⟩
    have HQ1 := Lib.hid (HQ0.out.trans hq1)
    clear hq1
    go_wp2_with fail
    go_ret
    exact ⟨_, rfl, StrRow.nil _ _, HQ1.out⟩
  case true =>
    rw [hr] at HR
    obtain ⟨hv, hok, _⟩ := RT_ok hr
    have hav := okF_allV ps hok
    have HFW : Hid (∀ W, Quiet0 W0 W → Calls Tryd.prog 39 #[.agg #[.int .i64 h.k, .string h.nm, .int .i64 h.n, .int .i64 h.tk, .int .i64 h.tn, .slice o1 l1 c1, .slice o2 l2 c2, .int .i64 h.fr, .int .i64 h.en]] W (ListQ W (free1 [] h ps))) := fun W hq => HFC.out W hq hv hav
    have HE : Hid (freeN h ps = dd (free1 [] h ps)) := by show _ = _; unfold freeN; rw [hr]; rfl
    have hln := free1_len [] h ps
    rw [HE.out]
    clear HFC hv hok hav HE
    generalize free1 [] h ps = L at *
    obtain ⟨RES, hres⟩ : ∃ RES, RES = dd L := ⟨_, rfl⟩
    have HRES := Lib.hid hres
    rw [← hres]
    clear hres
    generalize hn : L.length = n at *
    have HN := Lib.hid hn
    clear hn
    go_enter Tryd.func18, Tryd.ntmps18
    go_upto_region 1 with fail
    rw [← hW0]
    clear hW0
    generalize hB : w.heap.size = B at *
    have HBE := Lib.hid hB
    clear hB
    obtain ⟨a0, a1, a2, a3, a4, a5, a6, a7, a8⟩ := HC.out W0 (Quiet0.refl _)
    go_wp2_with fail
    refine HR.out.mono ?_; rintro x w1 ⟨rfl, hq1⟩
    clear a0 a1 a2 a3 a4 a5 a6 a7 a8
    obtain ⟨a0, a1, a2, a3, a4, a5, a6, a7, a8⟩ := HC.out w1 hq1
    have HQ1 := Lib.hid hq1
    clear hq1
    go_wp2_with fail
    refine (HFW.out w1 HQ1.out).mono ?_; rintro x w2 ⟨o, c, xs, rfl, hl, hq2⟩
    have HQ2 := Lib.hid (HQ0.out.trans (HQ1.out.trans hq2))
    have HL := Lib.hid hl.heads
    rw [HN.out]
    clear hl hq2 a0 a1 a2 a3 a4 a5 a6 a7 a8
    go_wp2_with fail
    go_loopw [3, 12] (fun v t wr => ∃ (i m mc : Nat) (mo : Option Addr) (acc : List ByteArray), t = .int .i64 i ∧ v = .slice mo m mc ∧ i ≤ n ∧ acc.length = m ∧ m ≤ i ∧ ((L.drop i).map (·.nm)).foldl ddS acc = RES ∧ StrRow wr w2.heap.size (.slice mo m mc) acc ∧ Quiet0 w2 wr) (fun _ t _ => n - (intOf t).toNat)
    case atStart => exact ⟨0, 0, 0, none, [], rfl, rfl, Nat.zero_le _, rfl, Nat.le_refl _, by rw [HRES.out]; rfl, StrRow.nil _ _, Quiet0.refl _⟩
    case round =>
      obtain ⟨i, m, mc, mo, acc, rfl, rfl, hi, hm, hmi, hf, hrow, hq⟩ := hrel
      have HM := Lib.hid hm
      have HF := Lib.hid hf
      have HROW := Lib.hid hrow
      have HQ := Lib.hid hq
      clear hm hf hrow hq
      by_cases hlt : i < n
      · have hlt' : (i : Int) < n := by omega
        obtain ⟨y, hy⟩ : ∃ y, L[i]? = some y := ⟨_, List.getElem?_eq_getElem (by have := HN.out; omega)⟩
        obtain ⟨g9, off, u1, v1, e1, u2, v2, e2, rfl, hc9⟩ := (HeadsAt.stay HL.out HQ.out) i y hy
        have hdy : L.drop i = y :: L.drop (i + 1) := by
          have hlt2 : i < L.length := by have := HN.out; omega
          rw [List.drop_eq_getElem_cons hlt2]; congr 1
          rw [List.getElem?_eq_getElem hlt2] at hy; exact Option.some.inj hy
        have HD : Hid (((L.drop (i + 1)).map (·.nm)).foldl ddS (ddS acc y.nm) = RES) := by show _ = _; rw [← HF.out, hdy]; rfl
        obtain ⟨W1, hW1⟩ : ∃ W1, W1 = wr.alloc (.cells (cells9 y u1 v1 e1 u2 v2 e2) 30) := ⟨_, rfl⟩
        have hq1 : Quiet0 wr W1 := by rw [hW1]; exact Quiet0.alloc _ _
        have HP1 : Hid (Cells9 W1 wr.heap.size 0 y u1 v1 e1 u2 v2 e2) := by show Cells9 _ _ _ _ _ _ _ _ _ _; rw [hW1]; exact cells9_new _ _ _ _ _ _ _ _ _
        have HR1 := Lib.hid (HROW.out.stay hq1)
        have HQ1' := Lib.hid (HQ.out.trans hq1)
        obtain ⟨o', c', he, hmx, hat⟩ := HR1.out.form
        injection he with he1 he2 he3
        rw [← he1] at hat
        have HCN := Lib.hid (contains_any acc y.nm mo m mc W1 hat HM.out (by omega))
        obtain ⟨q0, q1, q2, q3, q4, q5, q6, q7, q8⟩ := hc9
        clear hy hdy hq1 he1 he2 he3 hmx hat
        go_upto_region 7 with fail
        change Code.wp _ _ _ _ (wr.alloc (.cells (cells9 y u1 v1 e1 u2 v2 e2) 30))
        rw [← hW1]
        clear hW1 q0 q1 q2 q3 q4 q5 q6 q7 q8
        generalize wr.heap.size = pb at *
        obtain ⟨q0, q1, q2, q3, q4, q5, q6, q7, q8⟩ := HP1.out
        go_wp2_with fail
        refine HCN.out.mono ?_; rintro x w3 ⟨rfl, rfl⟩
        cases hh : hasB acc y.nm
        case true =>
          have HS : Hid (ddS acc y.nm = acc) := by show _ = _; unfold ddS; rw [hh]; rfl
          clear hh
          go_wp2_with fail
          go_roundw
          case rel => exact ⟨i + 1, m, mc, mo, acc, by go_num, rfl, by omega, HM.out, by omega, by rw [← HD.out, HS.out], HR1.out, HQ1'.out⟩
          case measure => simp [intOf] <;> omega
        case false =>
          have HS : Hid (ddS acc y.nm = acc ++ [y.nm]) := by show _ = _; unfold ddS; rw [hh]; rfl
          clear hh
          go_wp2_with (at_builtin; go_must (refine wpList_append_one W1 rfl (.tmp 21) (.tmp 24) 40 rfl 9 _ 1 16 elemStr (.slice mo m mc) m (strs acc) rfl (HM.out ▸ HR1.out.own) #[.string y.nm] rfl rfl ?c1 ?c2 ?c3 ?_))
          case c1 => simp [Value.oneCell']
          case c2 => unfold maxLen; omega
          case c3 => omega
          intro g4 c4 w4 ho hf4 hg4
          have HB2 : Hid (w2.heap.size ≤ W1.heap.size) := HQ1'.out.size
          have HR4 : Hid (StrRow w4 w2.heap.size (.slice (some ⟨g4, 0, none⟩) (m + 1) c4) (acc ++ [y.nm])) := by
            have hm := HM.out
            subst hm
            exact StrRow.snoc HR1.out ho hg4 HB2.out
          have HQ4 : Hid (Quiet0 w2 w4) := HQ1'.out.trans' hf4 (fun k hk h => by
            have h1 := HROW.out.low k h
            omega)
          clear ho hf4 hg4
          go_wp2_with fail
          go_roundw
          case rel => exact ⟨i + 1, m + 1, c4, some ⟨g4, 0, none⟩, acc ++ [y.nm], by go_num, rfl, by omega, by simp [HM.out], by omega, by rw [← HD.out, HS.out], HR4.out, HQ4.out⟩
          case measure => simp [intOf] <;> omega
      · have hlt' : ¬ (i : Int) < n := by omega
        have HE2 : Hid (acc = RES) := by
          have := HF.out
          rw [List.drop_eq_nil_of_le (by have := HN.out; omega)] at this
          exact this
        go_wp2_with fail
        go_ret
        rw [← HE2.out]
        exact ⟨_, rfl, ⟨HROW.out.own, fun k hk => by have := HROW.out.low k hk; have := HQ2.out.size; omega⟩, HQ2.out.trans HQ.out⟩
end Sc
end Go.Proofs.YtnfodiedalhlhaaDoor
end
section
/-
  scope.Bound: the names that bind, in order. Conditions: the term lies in memory as told; there are few; the table of blanks holds what its initialiser lays.
-/
namespace Go.Proofs.YtnfodiedalhlhaaDoor
open Go.RowKit Go.Shelf

attribute [local go_sem] Oper.semAt_some
namespace Sc
/-- append of one element, which lies in a new block of its own, to a row of the call's own: inside a fence -/
theorem bnListIn_append_one {F : Fence} {nF : Nat} {P : Program} (W : World) {ops : Array Oper} {rest : List Oper} {o : Oper} {a : Act} {Q : Exit → Act → World → Prop}
    (hgd : o.guard = none) (s x : Operand) (t : TypeId) (ho : o.op = Op.call { callee := Callee.builtin Builtin.append, args := #[s, x], argTypes := #[t, t] })
    (e : TypeId) (z : Value) (size bytes : Nat) (he : Elem P t e z size bytes) (_ : o.type = e ∨ True)
    (v : Value) (n : Nat) (xs : List Value) (hs : a.eval s = v) (hown : W.ownsRow 0 e size v n xs)
    (news : Array Value) (hx : a.eval x = .slice (some ⟨W.heap.size, 0, none⟩) 1 1) (hn : news.size = size) (h1c : ∀ u ∈ news.toList, u.oneCell' = true)
    (b1 : n + 1 ≤ maxLen) (b2 : (n + 1) * bytes ≤ 140737488355328)
    (hK : ∀ g c w', w'.ownsRow 0 e size (.slice (some ⟨g, 0, none⟩) (n + 1) c) (n + 1) (xs ++ news.toList) → Fr (fun k => v.ownBlock = some k) W w' → (v.ownBlock = some g ∨ W.heap.size ≤ g) → wpListIn F nF P ops Q rest (a.put o.dst (.slice (some ⟨g, 0, none⟩) (n + 1) c)) w') :
    wpListIn F nF P ops Q (o :: rest) a (W.alloc (.cells news e)) := by
  obtain ⟨i0, hi, hz0, hz1, hz2⟩ := info_parts he.info
  refine wpListIn_plain hgd fun K hK' => ?_
  obtain ⟨v', w', hr, h2, h3, h4, h5⟩ := run_append_own_at (P := P) (W.alloc (.cells news e)) 0 t o.type e i0 z size bytes he.under hi hz0 hz1 hz2 he.cells he.pos v n xs (hown.alloc _) ⟨W.heap.size, 0, none⟩ 1 1 news.toList (by simpa using hn)
    (by
      intro j u hu
      rw [Addr.add_lit, cell_of_row (W.alloc (.cells news e)) W.heap.size (0 + j) news e (0, 0) (heap_alloc_new W _)]
      simpa using hu) h1c b1 b2 (Nat.zero_le _)
  unfold Oper.wpIn
  refine ⟨by simp [Oper.about, ho, resolve, Target.leads, Sem.run_pure], ?_⟩
  rw [Oper.semAt_plain F _ _ (by rw [ho]; intro c hc'; cases hc')]
  simp [execOp, ho, resolve, invoke, builtin, hs, hx, hr, Result.andThen]
  refine hK' _ _ ?_
  rcases h2.2 with ⟨rfl, h0⟩ | ⟨g, cap, cur, rfl, _⟩
  · omega
  · refine hK g cap w' h2 ((Fr.alloc _ W _).trans (Fr.grown h3 (fun k hk => hk))) ?_
    rcases h5 with h | h
    · exact .inl (by rw [← h]; rfl)
    · simp [Value.ownBlock] at h; exact .inr (by omega)
/-- the names of binders of a list of terms -/
def bdx (xs : List (Nd × To)) : List ByteArray := (xs.filter (fun t => bindK t.1.k)).map (fun t => t.1.nm)
def boundN (h : Nd) (ps : To) : List ByteArray := if RT h ps then boundL (.cons h ps .nil) else []
theorem bdx_len (xs : List (Nd × To)) : (bdx xs).length ≤ xs.length := by unfold bdx; rw [List.length_map]; exact List.length_filter_le _ _
/-- between two rounds of Bound -/
def BnI (B ob : Nat) (w : World) (xs : List (Nd × To)) (i : Nat) (D : Nat → Prop) (W : World) : Prop :=
  ∃ v, (∀ k, D k ↔ (k = ob ∨ v.ownBlock = some k)) ∧ W.heap[ob]? = some (.cells #[v] 40 (0, 0)) ∧ StrRow W B v (bdx (xs.take i)) ∧ Quiet0 w W
theorem StrRow.fr {w w' : World} {B : Nat} {v : Value} {l : List ByteArray} {S : Nat → Prop} (h : StrRow w B v l) (hf : Fr S w w') (hS : ∀ k, v.ownBlock = some k → ¬ S k) : StrRow w' B v l := ⟨ownsRow_fr h.own hf hS, h.low⟩
theorem BnI.fr {B ob : Nat} {w : World} {xs : List (Nd × To)} {i : Nat} {D S : Nat → Prop} {W W' : World} (h : BnI B ob w xs i D W) (hf : Fr S W W') (h1 : ∀ k, D k → ¬ S k) (h2 : ∀ k, k < w.heap.size → ¬ S k) : BnI B ob w xs i D W' := by
  obtain ⟨v, hd, hb, hr, hq⟩ := h
  exact ⟨v, hd, blk_fr hf (h1 _ ((hd _).2 (.inl rfl))) hb, StrRow.fr hr hf (fun k hk => h1 _ ((hd _).2 (.inr hk))), hq.trans' hf (fun k hk hs => h2 k hk hs)⟩
theorem bindK_B (k : Int) : bindsB k 1 = bindK k := by
  unfold bindsB bindK
  cases h4 : (k == 4) <;> cases h6 : (k == 6) <;> cases h7 : (k == 7) <;> rfl
set_option maxHeartbeats 8000000 in
set_option maxRecDepth 100000 in
theorem boundR_any (h : Nd) (ps : To) (w : World) (R : Nat → Prop) (o1 : Option Addr) (l1 c1 : Nat) (o2 : Option Addr) (l2 c2 : Nat) (hs1 : SlcIn R w o1 l1 h.tp) (hs : TSlc R w o2 l2 ps) (hz : ps.size ≤ 100000) (hg : allT GoodH (.cons h ps .nil)) (ht : Lx.Spaces w) (hr : RT h ps = true) :
    Calls Tryd.prog 19 #[tmv h o1 l1 c1 o2 l2 c2] w (StPost w (bdx (To.cons h ps .nil).flat)) := by
  have hxl : (To.cons h ps .nil).flat.length ≤ 1000000 := by simp [To.flat_length, To.size]; omega
  obtain ⟨W0, hW0⟩ : ∃ W0, W0 = w.alloc (.cells (cells9 h o1 l1 c1 o2 l2 c2) 30) := ⟨_, rfl⟩
  have hq0 : Quiet0 w W0 := by rw [hW0]; exact Quiet0.alloc _ _
  have hbt : W0.heap[w.heap.size]? = some (.cells (cells9 h o1 l1 c1 o2 l2 c2) 30 (0, 0)) := by rw [hW0]; exact heap_alloc_new w _
  have HR0 := rightTm_any h ps W0 R o1 l1 c1 o2 l2 c2 (hs1.stay hq0) (hs.stay hq0) hz hg (ht.stay hq0)
  change Calls _ _ _ _ (fun e w' => e = .returned (.bool (RT h ps)) ∧ _) at HR0
  rw [hr] at HR0
  have HR := Lib.hid ((callsIn_wide (n := 4)).2 HR0)
  have HBT := Lib.hid hbt
  have HQ0 := Lib.hid hq0
  obtain ⟨xs, hxs⟩ : ∃ xs, (To.cons h ps .nil).flat = xs := ⟨_, rfl⟩
  rw [hxs] at hxl ⊢
  refine (callsIn_wide (n := 5)).1 ?_
  refine callsIn_of_wp_marks Tryd.func19 rfl trivial ?_ rfl
  simp only [Tryd.ntmps19, List.size_toArray, List.length_cons, List.length_nil, Nat.reduceAdd, Nat.reduceSub, Array.replicate_succ, Array.replicate_zero, List.push_toArray, List.append_toArray, List.nil_append, List.cons_append]
  have HC := fun W => (callsIn_wide (n := 4)).2 (all_call h o1 l1 c1 o2 l2 c2 W)
  unfold tmv at HC HR ⊢
  clear HR0 hbt hq0 ht hg hr
  gi_upto_region 1 with fail
  rw [← hW0]
  clear hW0
  obtain ⟨a0, a1, a2, a3, a4, a5, a6, a7, a8⟩ := cells9_block HBT.out
  gi_wp2_with (fail)
  refine ⟨trivial, HR.out.mono ?_⟩; rintro e w1 ⟨rfl, hq1⟩
  obtain ⟨W1, hW1⟩ : ∃ W1, W1 = w1.alloc (.cells #[.slice none 0 0] 40) := ⟨_, rfl⟩
  have hqA : Quiet0 w1 W1 := by rw [hW1]; exact Quiet0.alloc _ _
  have hq01 : Quiet0 w W1 := HQ0.out.trans (hq1.trans hqA)
  have hb1 : W1.heap[w1.heap.size]? = some (.cells #[.slice none 0 0] 40 (0, 0)) := by rw [hW1]; exact heap_alloc_new w1 _
  have hz1 : W1.heap.size = w1.heap.size + 1 := by rw [hW1]; simp
  have hbt1 := blk_fr (hq1.trans hqA) (fun h => h) HBT.out
  have hsw := HQ0.out.size
  have hsw1 := hq1.size
  clear a0 a1 a2 a3 a4 a5 a6 a7 a8
  gi_upto_region 4 with fail
  change Code.wpIn _ _ _ _ _ _ (w1.alloc (.cells #[.slice none 0 0] 40))
  rw [← hW1]
  clear hW1 hqA hq1
  obtain ⟨a0, a1, a2, a3, a4, a5, a6, a7, a8⟩ := cells9_block hbt1
  gi_wp2_with (fail)
  refine ⟨trivial, (HC _).mono ?_⟩; rintro e W2' ⟨rfl, hW2⟩
  obtain ⟨ob, hob⟩ : ∃ ob, ob = w1.heap.size := ⟨_, rfl⟩
  have hq2 : Quiet0 w W2' := by rw [hW2]; exact hq01.trans (Quiet0.alloc _ _)
  have hb2 : W2'.heap[ob]? = some (.cells #[.slice none 0 0] 40 (0, 0)) := by
    rw [hW2, Below.heap_alloc _ _ _ (by omega), hob]; exact hb1
  have htb : W2'.heap[W1.heap.size]? = some (.cells (cells9 h o1 l1 c1 o2 l2 c2) 30 (0, 0)) := by rw [hW2]; exact heap_alloc_new W1 _
  have hz2 : W2'.heap.size = ob + 2 := by rw [hW2]; simp; omega
  have hseq := all_seq (5 - 1) (fun k => k < w.heap.size ∨ k = W1.heap.size) h ps o1 l1 c1 o2 l2 c2 W1.heap.size W2' (fun k hk => by omega) htb (.inr rfl) ((hs1.mono (T := fun k => k < w.heap.size ∨ k = W1.heap.size) (fun k hk _ => .inl hk)).stay hq2) ((hs.mono (T := fun k => k < w.heap.size ∨ k = W1.heap.size) (fun k hk _ => .inl hk)).stay hq2) hz
  have hwo : w.heap.size < ob := by have := lt_of_block HBT.out; omega
  rw [hz1, ← hob] at hseq
  rw [hxs] at hseq
  have HSEQ := Lib.hid hseq
  have HST : Hid (BnI (ob + 4) ob w xs 0 (fun j => j = ob) W2') := ⟨.slice none 0 0, fun k => by simp [Value.ownBlock], hb2, StrRow.nil _ _, hq2⟩
  rw [hz1, ← hob]
  have HOB := Lib.hid hob
  have HX := Lib.hid hxs
  clear hW2 hq01 hb1 hq2 hb2 htb hseq HC hxs hbt1 a0 a1 a2 a3 a4 a5 a6 a7 a8 hob
  gi_wp2_with (fail)
  have hb4 : (4 : Nat) = 5 - 1 := rfl
  refine wpIn_range_c (w := W2') rfl (enters_of Tryd.func81 (by kernel_rfl) rfl) HSEQ.out (fun k hk => by omega) (Fr.refl _ _) (fun i x va W he => encT_size he)
    (BnI (ob + 4) ob w xs)
    (fun i x a' D W => BnI (ob + 4) ob w xs i D W ∧ ∃ (xb : Nat) (t8 t9 : Value) (p1 : Option Addr) (m1 d1 : Nat) (p2 : Option Addr) (m2 d2 : Nat), W.heap[xb]? = some (.cells (cells9 x.1 p1 m1 d1 p2 m2 d2) 30 (0, 0)) ∧ xb ≠ W2'.heap.size + 1 ∧ a' = { tmps := #[.agg #[.int .i64 h.k, .string h.nm, .int .i64 h.n, .int .i64 h.tk, .int .i64 h.tn, .slice o1 l1 c1, .slice o2 l2 c2, .int .i64 h.fr, .int .i64 h.en], .pointer (some ⟨w.heap.size, 0, none⟩), .slice none 0 0, .pointer (some ⟨ob, 0, none⟩), undef, .pointer (some ⟨xb, 0, none⟩), .agg #[.int .i64 h.k, .string h.nm, .int .i64 h.n, .int .i64 h.tk, .int .i64 h.tn, .slice o1 l1 c1, .slice o2 l2 c2, .int .i64 h.fr, .int .i64 h.en], .bool true, .bool false, .agg #[.int .i64 h.k, .string h.nm, .int .i64 h.n, .int .i64 h.tk, .int .i64 h.tn, .slice o1 l1 c1, .slice o2 l2 c2, .int .i64 h.fr, .int .i64 h.en], .func (.func 81) #[] #[.pointer (some ⟨ob + 1, 0, none⟩)], t8, t9, undef, undef, undef, undef, undef, undef, undef, undef, undef], defers := [] })
    (fun c W => False) (fun k => k = ob) ?own ?stay ?stayM ?stayX ?start ?assign ?body ?done ?stop
  case own =>
    rintro i D A ⟨v, hd, hb, hr, hq⟩ k hk
    have hl := lt_of_block hb
    rcases (hd k).1 hk with e | e
    · exact ⟨by omega, by omega, .inl (by omega)⟩
    · have h1 := hr.low k e
      exact ⟨(hr.own.lt k e).2, by omega, .inr (by omega)⟩
  case stay =>
    rintro i D A B hI hf
    exact hI.fr hf (fun k hk h => h.2 hk) (fun k hk h => by have := h.1; omega)
  case stayM =>
    rintro i x a' D A B ⟨hI, xb, t8, t9, p1, m1, d1, p2, m2, d2, hxb, hne, ha⟩ hf
    refine ⟨hI.fr hf (fun k hk h => ?_) (fun k hk h => by omega), xb, t8, t9, p1, m1, d1, p2, m2, d2, blk_fr hf hne hxb, hne, ha⟩
    obtain ⟨v, hd, hb, hr, hq⟩ := hI
    rcases (hd k).1 hk with e | e
    · omega
    · have := hr.low k e; omega
  case stayX => rintro c A B h hf; exact h
  case start => exact HST.out
  case assign =>
    rintro l i x va D W K hx ⟨p1, m1, d1, p2, m2, d2, rfl, hp1, hp2⟩ hI hWs hK
    unfold tmv
    have hq := Quiet0.alloc W (.cells (cells9 x.1 p1 m1 d1 p2 m2 d2) 30)
    have hnew := heap_alloc_new W (.cells (cells9 x.1 p1 m1 d1 p2 m2 d2) 30)
    have hne : W.heap.size ≠ W2'.heap.size + 1 := by omega
    have hI2 := hI.fr (S := fun _ => False) hq (fun _ _ h => h) (fun _ _ h => h)
    clear hI hWs hp1 hp2
    gi_wp2
    exact hK _ _ ⟨hI2, W.heap.size, .int .i64 (i : Int), tmv x.1 p1 m1 d1 p2 m2 d2, p1, m1, d1, p2, m2, d2, hnew, hne, by simp [tmv]⟩ hq
  case body =>
    rintro l i x a' D W hx ⟨hI, xb, t8, t9, p1, m1, d1, p2, m2, d2, hxb, hne, rfl⟩ hW
    obtain ⟨a0, a1, a2, a3, a4, a5, a6, a7, a8⟩ := cells9_block hxb
    have hCS := (callsIn_wide (n := 5 - 1 - 1)).2 (binds_any x.1.k 1 W)
    rw [bindK_B] at hCS
    have hil := (List.getElem?_eq_some_iff.1 hx).1
    cases hbk : bindK x.1.k
    · rw [hbk] at hCS
      have hfx : bdx (xs.take (i + 1)) = bdx (xs.take i) := by simp [bdx, List.take_add_one, hx, List.filter_append, hbk]
      gi_wp2_with (fail)
      refine ⟨trivial, (CallsIn.inRound l hCS).mono ?_⟩; rintro e w3 ⟨rfl, rfl⟩
      gi_wp2
      refine ⟨D, ?_, Fr.refl _ _, fun k hk => .inl hk⟩
      obtain ⟨v, hd, hb, hr, hq⟩ := hI
      exact ⟨v, hd, hb, by rw [hfx]; exact hr, hq⟩
    · rw [hbk] at hCS
      have hfx : bdx (xs.take (i + 1)) = bdx (xs.take i) ++ [x.1.nm] := by simp [bdx, List.take_add_one, hx, List.filter_append, hbk]
      have HFX := Lib.hid hfx
      obtain ⟨v, hd, hb, hr, hq⟩ := hI
      have cv := cell_of_one hb
      have hl2 : (bdx (xs.take i)).length ≤ 1000000 := by have := bdx_len (xs.take i); rw [List.length_take] at this; omega
      have HD := Lib.hid hd
      have HB := Lib.hid hb
      have HQ := Lib.hid hq
      generalize bdx (xs.take i) = out at *
      obtain ⟨vo, vc, rfl, hmx, _⟩ := hr.form
      have HR := Lib.hid hr
      have hnb : ∀ k, (Value.slice vo out.length vc).ownBlock = some k → k ≠ ob := fun k hk e => by have := HR.out.low k hk; omega
      clear hfx hd hb hq hr hxb hmx
      gi_wp2_with (fail)
      refine ⟨trivial, (CallsIn.inRound l hCS).mono ?_⟩; rintro e w3 ⟨rfl, rfl⟩
      clear a0 a2 a3 a4 a5 a6 a7 a8
      gi_wp2_with (gi_at_builtin; refine bnListIn_append_one W rfl (.tmp 16) (.tmp 19) 40 rfl 9 _ 1 16 elemStr (.inr trivial) (.slice vo out.length vc) out.length (strs out) rfl HR.out.own #[.string x.1.nm] rfl rfl (by simp [Value.oneCell']) (by unfold maxLen; omega) (by omega) ?_; intro g c' w4 ho hf hg; have hr4 : StrRow w4 (ob + 4) (.slice (some ⟨g, 0, none⟩) (out.length + 1) c') (out ++ [x.1.nm]) := StrRow.snoc HR.out ho hg (by omega); have hb4 := blk_fr hf (fun e => hnb _ e rfl) HB.out; have zz := free_of_one hb4; have cc := cell_of_one hb4; clear ho cv)
      have hfs := Fr.setCell (fun k => k = ob) w4 ⟨ob, 0, none⟩ (.slice (some ⟨g, 0, none⟩) (out.length + 1) c') rfl
      have hg5 : ob + 4 ≤ g := hr4.low g rfl
      refine ⟨fun k => k = ob ∨ k = g, ⟨.slice (some ⟨g, 0, none⟩) (out.length + 1) c', fun k => by simp [Value.ownBlock, eq_comm], one_setCell hb4, ?_, ?_⟩, ?_, ?_⟩
      · rw [HFX.out]; exact StrRow.fr hr4 hfs (fun k hk e => by simp [Value.ownBlock] at hk; omega)
      · exact (HQ.out.trans' hf (fun k hk e => by have := HR.out.low k e; omega)).trans' hfs (fun k hk e => by omega)
      · exact (hf.mono (fun k _ e => (HD.out k).2 (.inr e))).trans (hfs.mono (fun k _ e => (HD.out k).2 (.inl e)))
      · rintro k (e | e)
        · exact .inl ((HD.out k).2 (.inl e))
        · subst e
          rcases hg with h | h
          · exact .inl ((HD.out _).2 (.inr h))
          · exact .inr h
  case done =>
    rintro D W ⟨v, hd, hb, hr, hq⟩ hdef
    rw [List.take_length] at hr
    have cc := cell_of_one hb
    rw [hz2] at hdef
    gi_wp2
    refine ⟨by simp, .inl ⟨_, _, rfl, run_takeDeferred hdef, ?_⟩⟩
    have hfp := Fr.putObj (fun k => k = ob + 2) W (ob + 2) (.deferred none) rfl
    refine ⟨_, by simp [results, Tryd.results19, go_sem], v, rfl, ?_, ?_⟩
    · exact ⟨(StrRow.fr hr hfp (fun k hk e => by have := hr.low k hk; omega)).own, fun k hk => by have := hr.low k hk; omega⟩
    · exact hq.trans' hfp (fun k hk e => by omega)
  case stop => rintro c W h; exact h.elim
set_option maxHeartbeats 2000000 in
theorem boundN_any (h : Nd) (ps : To) (w : World) (R : Nat → Prop) (o1 : Option Addr) (l1 c1 : Nat) (o2 : Option Addr) (l2 c2 : Nat) (hs1 : SlcIn R w o1 l1 h.tp) (hs : TSlc R w o2 l2 ps) (hz : ps.size ≤ 100000) (hg : allT GoodH (.cons h ps .nil)) (ht : Lx.Spaces w) :
    Calls Tryd.prog 19 #[tmv h o1 l1 c1 o2 l2 c2] w (StPost w (boundN h ps)) := by
  cases hr : RT h ps
  case true =>
    have HE : boundN h ps = bdx (To.cons h ps .nil).flat := by unfold boundN; rw [hr, bound_flat]; rfl
    rw [HE]
    exact boundR_any h ps w R o1 l1 c1 o2 l2 c2 hs1 hs hz hg ht hr
  case false =>
    have HE : boundN h ps = [] := by unfold boundN; rw [hr]; rfl
    rw [HE]
    obtain ⟨W0, hW0⟩ : ∃ W0, W0 = w.alloc (.cells (cells9 h o1 l1 c1 o2 l2 c2) 30) := ⟨_, rfl⟩
    have HQ0 : Hid (Quiet0 w W0) := by rw [hW0]; exact Quiet0.alloc _ _
    have HC : Hid (∀ W, Quiet0 W0 W → Cells9 W w.heap.size 0 h o1 l1 c1 o2 l2 c2) := by
      intro W hq; rw [hW0] at hq; exact box9 w h o1 l1 c1 o2 l2 c2 _ W hq
    have HR := Lib.hid (rightTm_any h ps W0 R o1 l1 c1 o2 l2 c2 (hs1.stay HQ0.out) (hs.stay HQ0.out) hz hg (ht.stay HQ0.out))
    change Hid (Calls _ _ _ _ (fun e w' => e = .returned (.bool (RT h ps)) ∧ _)) at HR
    rw [hr] at HR
    clear hs1 hs hg ht HE
    unfold tmv at HR ⊢
    go_enter Tryd.func19, Tryd.ntmps19
    go_upto_region 1 with fail
    rw [← hW0]
    clear hW0
    obtain ⟨a0, a1, a2, a3, a4, a5, a6, a7, a8⟩ := HC.out W0 (Quiet0.refl _)
    go_wp2_with fail
    refine HR.out.mono ?_; rintro x w1 ⟨rfl, hq1⟩
    have HQ1 := Lib.hid (HQ0.out.trans hq1)
    clear hq1
    go_wp2_with fail
    go_ret
    exact ⟨_, rfl, StrRow.nil _ _, HQ1.out⟩
end Sc
end Go.Proofs.YtnfodiedalhlhaaDoor
end
