/-
  Texts laid together (ScRsv, ScTmRow, ScRCall0, CnRen, EmRen, EmPos, EmCnt, EmNext): laws and walks, with their conditions.
-/
import Derived.Test.YtcninopmelmajaaGreatDoorMN10
set_option maxHeartbeats 8000000
set_option maxRecDepth 1000000
namespace Go.Proofs.YtcninopmelmajaaGreatDoor
open Go.Lib (hid)
section
open Go.RowKit Go.Shelf
namespace Sc
def zeroN : Nd := ⟨0, ⟨#[]⟩, 0, 0, 0, .nil, 0, 0⟩
theorem sound_var {h : Nd} {ps : To} (hs : soundB h ps.length = true) : varOk h ps := by
 intro hk
 unfold soundB at hs
 simp only [Bool.and_eq_true, decide_eq_true_eq] at hs
 have h1 := hs.2
 rw [hk] at h1
 have : ps.length = 0 := by have h2 : kMost 1 = 0 := rfl; rw [h2] at h1; omega
 cases ps with
 | nil => rfl
 | cons _ _ _ => simp [To.length] at this
theorem right_okF : ∀ f : To, allS f = true -> okF f
 | .nil, _ => trivial
 | .cons h ps r, e => by
  rw [allS_cons, Bool.and_eq_true, Bool.and_eq_true] at e
  refine ⟨sound_var e.1.1, ?_, right_okF ps e.1.2, right_okF r e.2⟩
  intro hk
  have hs := e.1.1
  unfold soundB at hs
  simp only [Bool.and_eq_true, decide_eq_true_eq] at hs
  have hn : namedB h = true := hs.1.1.1.1.1.2
  unfold namedB at hn
  have hkn : kName h.k = false := by unfold namedK bindK at hk; unfold kName; simpa [Bool.or_assoc] using hk
  rw [hkn] at hn
  simp only [Bool.false_eq_true, if_false, List.isEmpty_iff] at hn
  rw [ByteArray.toList_eq] at hn
  apply ByteArray.ext
  apply Array.toList_inj.1
  simpa using hn
def RT (h : Nd) (ps : To) : Bool := allS (.cons h ps .nil)
theorem RT_ok {h : Nd} {ps : To} (hr : RT h ps = true) : varOk h ps /\ okF ps /\ (namedK h.k = false -> h.nm = ByteArray.empty) := by
 have := right_okF _ hr
 exact ⟨this.1, this.2.2.1, this.2.1⟩
def rsvP (h : Nd) (ps : To) : (Nd × To) × (Int × Int) × Int :=
 if RT h ps then (match free1 [] h ps with
  | [] => ((resH h ps, resP h ps), (0, 0), 0)
  | x :: _ => ((zeroN, .nil), (x.fr, x.en), 5)) else ((zeroN, .nil), (0, 0), 1)
def RsvQ (w : World) (h : Nd) (ps : To) (x : Ending) (w' : World) : Prop := ∃ (g : Nd) (gs : To) (o1 : Option Addr) (l1 c1 : Nat) (o2 : Option Addr) (l2 c2 : Nat) (p : Int × Int) (er : Int), x = .returned (.tuple #[tmv g o1 l1 c1 o2 l2 c2, .agg #[.int .i64 p.1, .int .i64 p.2], .int .i64 er]) /\ rsvP h ps = ((g, gs), p, er) /\
 SlcIn (fun b => w.heap.size <= b) w' o1 l1 g.tp /\ TSlc (fun b => w.heap.size <= b) w' o2 l2 gs /\ Quiet0 w w'
def put2 (w : World) (B : Nat) (u v : Value) : World := (w.setCell ⟨B, 0, none⟩ u).setCell ⟨B, 1, none⟩ v
theorem put2_fr (w : World) (B : Nat) (u v : Value) : Fr (fun k => k = B) w (put2 w B u v) := (Fr.setCell (fun k => k = B) w ⟨B, 0, none⟩ u rfl).trans (Fr.setCell (fun k => k = B) _ ⟨B, 1, none⟩ v rfl)
theorem put2_block {w : World} {B : Nat} {u v a b : Value} {t : TypeId} (h : w.heap[B]? = some (.cells #[a, b] t (0, 0))) : (put2 w B u v).heap[B]? = some (.cells #[u, v] t (0, 0)) := set_block (i := 1) (u := v) (set_block (i := 0) (u := u) h)
theorem span_cells {w : World} {B : Nat} {a b : Value} {t : TypeId} (h : w.heap[B]? = some (.cells #[a, b] t (0, 0))) : w.cell? ⟨B, 0, none⟩ = some a /\ w.cell? ⟨B, 1, none⟩ = some b /\ w.frozen? ⟨B, 0, none⟩ = false /\ w.frozen? ⟨B, 1, none⟩ = false := by
 refine ⟨?_, ?_, ?_, ?_⟩
 ·rw [cell_of_row _ _ _ _ _ (0, 0) h]; rfl
 ·rw [cell_of_row _ _ _ _ _ (0, 0) h]; rfl
 ·simp [World.frozen?, h]
 ·simp [World.frozen?, h]
theorem resolve_any (h : Nd) (ps : To) (w : World) (R : Nat -> Prop) (o1 : Option Addr) (l1 c1 : Nat) (o2 : Option Addr) (l2 c2 : Nat) (hs1 : SlcIn R w o1 l1 h.tp) (hs : TSlc R w o2 l2 ps) (hz : ps.size <= 100000) (hg : allT GoodH (.cons h ps .nil)) (ht : Lx.Spaces w) :
    Calls Tryz.prog 41 #[tmv h o1 l1 c1 o2 l2 c2] w (RsvQ w h ps) := by
 obtain ⟨W0, hW0⟩ : ∃ W0, W0 = ((w.alloc (.cells (cells9 h o1 l1 c1 o2 l2 c2) 29)).alloc (.cells zero9 29)).alloc (.cells #[.int .i64 0, .int .i64 0] 27) := ⟨_, rfl⟩
 have HQ0 : Hid (Quiet0 w W0) := by rw [hW0]; exact ((Quiet0.alloc _ _).trans (Quiet0.alloc _ _)).trans (Quiet0.alloc _ _)
 have HB0 : Hid (W0.heap[w.heap.size]? = some (.cells (cells9 h o1 l1 c1 o2 l2 c2) 29 (0, 0))) := by
  show _ = _; rw [hW0, Below.heap_alloc _ _ _ (by simp; omega), Below.heap_alloc _ _ _ (by simp)]; exact heap_alloc_new w _
 have HB1 : Hid (W0.heap[w.heap.size + 1]? = some (.cells zero9 29 (0, 0))) := by
  show _ = _; rw [hW0, Below.heap_alloc _ _ _ (by simp)]
  have := heap_alloc_new (w.alloc (.cells (cells9 h o1 l1 c1 o2 l2 c2) 29)) (.cells zero9 29)
  simpa using this
 have HB2 : Hid (W0.heap[w.heap.size + 2]? = some (.cells #[.int .i64 0, .int .i64 0] 27 (0, 0))) := by
  show _ = _; rw [hW0]
  have := heap_alloc_new ((w.alloc (.cells (cells9 h o1 l1 c1 o2 l2 c2) 29)).alloc (.cells zero9 29)) (.cells #[.int .i64 0, .int .i64 0] 27)
  simpa using this
 have HR := hid (rightTm_any h ps W0 R o1 l1 c1 o2 l2 c2 (hs1.stay HQ0.out) (hs.stay HQ0.out) hz hg (ht.stay HQ0.out))
 have HC : Hid (∀ W, Quiet0 W0 W -> Cells9 W w.heap.size 0 h o1 l1 c1 o2 l2 c2) := fun W hq => (cells9_block HB0.out).fr hq (fun h => h)
 have HP : Hid (∀ W, Quiet0 W0 W -> W.heap[w.heap.size + 1]? = some (.cells zero9 29 (0, 0)) /\ W.heap[w.heap.size + 2]? = some (.cells #[.int .i64 0, .int .i64 0] 27 (0, 0))) := fun W hq => ⟨blk_after hq HB1.out, blk_after hq HB2.out⟩
 have HFC : Hid (∀ W, Quiet0 W0 W -> varOk h ps -> allV ps -> Calls Tryz.prog 63 #[tmv h o1 l1 c1 o2 l2 c2] W (ListQ W (free1 [] h ps))) := fun W hq h1 h2 => free_any h ps W R o1 l1 c1 o2 l2 c2 (hs1.stay (HQ0.out.trans hq)) (hs.stay (HQ0.out.trans hq)) hz h1 h2
 have HRC : Hid (∀ W, Quiet0 W0 W -> varOk h ps -> allV ps -> Calls Tryz.prog 64 #[tmv h o1 l1 c1 o2 l2 c2] W (TmQ W (resH h ps) (resP h ps))) := fun W hq h1 h2 => resolved_any h ps W R o1 l1 c1 o2 l2 c2 (hs1.stay (HQ0.out.trans hq)) (hs.stay (HQ0.out.trans hq)) hz h1 h2 (by have := hg.1.2.1; omega) (allT_mono (fun h hh => by have := hh.2.1; omega) _ hg.2.1)
 change Hid (Calls _ _ _ _ (fun e w' => e = .returned (.bool (RT h ps)) /\ _)) at HR
 clear hs1 hs hg ht
 unfold tmv at HR HFC HRC ⊢
 cases hr : RT h ps
 case false =>
  rw [hr] at HR
  have HE : Hid (rsvP h ps = ((zeroN, .nil), (0, 0), 1)) := by show _ = _; unfold rsvP; rw [hr]; rfl
  go_enter Tryz.func41, Tryz.ntmps41
  go_upto_region 1 with fail
  rw [<- hW0]
  clear hW0
  generalize hB : w.heap.size = B at *
  have HBE := hid hB
  clear hB
  obtain ⟨a0, a1, a2, a3, a4, a5, a6, a7, a8⟩ := HC.out W0 (Quiet0.refl _)
  go_wp2_with fail
  refine HR.out.mono ?_; rintro x w1 ⟨rfl, hq1⟩
  obtain ⟨hb1, hb2⟩ := HP.out w1 hq1
  have HK1 := hid hb1
  have HK2 := hid hb2
  have HQ1 := hid (HQ0.out.trans hq1)
  obtain ⟨⟨z0, z1, z2, z3, z4, z5, z6, z7, z8⟩, t0, t1, t2, t3, t4, t5, t6, t7, t8⟩ := block9 hb1
  obtain ⟨p0, p1, p2, p3⟩ := span_cells hb2
  clear hb1 hb2 hq1 a0 a1 a2 a3 a4 a5 a6 a7 a8
  go_wp2_with fail
  clear z0 z1 z2 z3 z4 z5 z6 z7 z8 t0 t1 t2 t3 t4 t5 t6 t7 t8 p0 p1 p2 p3
  have hbf := put9_block (a0 := .int .i64 0) (a1 := .string ⟨#[]⟩) (a2 := .int .i64 0) (a3 := .int .i64 0) (a4 := .int .i64 0) (a5 := .slice none 0 0) (a6 := .slice none 0 0) (a7 := .int .i64 0) (a8 := .int .i64 0) HK1.out
  have hf9 := put9_fr w1 (B + 1) (.int .i64 0) (.string ⟨#[]⟩) (.int .i64 0) (.int .i64 0) (.int .i64 0) (.slice none 0 0) (.slice none 0 0) (.int .i64 0) (.int .i64 0)
  have hb2f := blk_fr hf9 (by omega) HK2.out
  have hf2 := put2_fr (put9 w1 (B + 1) (.int .i64 0) (.string ⟨#[]⟩) (.int .i64 0) (.int .i64 0) (.int .i64 0) (.slice none 0 0) (.slice none 0 0) (.int .i64 0) (.int .i64 0)) (B + 2) (.int .i64 0) (.int .i64 0)
  have hbg := blk_fr hf2 (by omega) hbf
  have hbh := put2_block (u := .int .i64 0) (v := .int .i64 0) hb2f
  have hff : Fr (fun k => k = B + 1 ∨ k = B + 2) w1 (put2 (put9 w1 (B + 1) (.int .i64 0) (.string ⟨#[]⟩) (.int .i64 0) (.int .i64 0) (.int .i64 0) (.slice none 0 0) (.slice none 0 0) (.int .i64 0) (.int .i64 0)) (B + 2) (.int .i64 0) (.int .i64 0)) := (hf9.mono (fun _ _ h => .inl h)).trans (hf2.mono (fun _ _ h => .inr h))
  change bodyPost _ _ _ _ _ (put2 (put9 w1 (B + 1) (.int .i64 0) (.string ⟨#[]⟩) (.int .i64 0) (.int .i64 0) (.int .i64 0) (.slice none 0 0) (.slice none 0 0) (.int .i64 0) (.int .i64 0)) (B + 2) (.int .i64 0) (.int .i64 0))
  clear hbf hf9 hb2f hf2
  generalize (put2 (put9 w1 (B + 1) (.int .i64 0) (.string ⟨#[]⟩) (.int .i64 0) (.int .i64 0) (.int .i64 0) (.slice none 0 0) (.slice none 0 0) (.int .i64 0) (.int .i64 0)) (B + 2) (.int .i64 0) (.int .i64 0)) = wf at *
  obtain ⟨⟨x0, x1, x2, x3, x4, x5, x6, x7, x8⟩, _⟩ := block9 hbg
  have s0 := (cell_of_row _ (B + 2) 0 _ _ (0, 0) hbh).trans (show _ = some (Value.int .i64 0) from rfl)
  have s1 := (cell_of_row _ (B + 2) 1 _ _ (0, 0) hbh).trans (show _ = some (Value.int .i64 0) from rfl)
  have HFIN : Hid (RsvQ w h ps (.returned (.tuple #[.agg #[.int .i64 0, .string ⟨#[]⟩, .int .i64 0, .int .i64 0, .int .i64 0, .slice none 0 0, .slice none 0 0, .int .i64 0, .int .i64 0], .agg #[.int .i64 0, .int .i64 0], .int .i64 1])) wf) := by
   have hB := HBE.out
   exact ⟨zeroN, .nil, none, 0, 0, none, 0, 0, (0, 0), 1, rfl, HE.out, SlcIn.nil _ _ _, TSlc.nil _ _ _, HQ1.out.trans' hff (fun k hk h => by omega)⟩
  clear hff hbg hbh
  refine bodyPost_ret (by simp [results, Tryz.results41, go_sem, x0, x1, x2, x3, x4, x5, x6, x7, x8, s0, s1]; rfl) rfl ?_
  exact HFIN.out
 case true =>
  rw [hr] at HR
  obtain ⟨hv, hok, _⟩ := RT_ok hr
  have hav := okF_allV ps hok
  have HFW : Hid (∀ W, Quiet0 W0 W -> Calls Tryz.prog 63 #[.agg #[.int .i64 h.k, .string h.nm, .int .i64 h.n, .int .i64 h.tk, .int .i64 h.tn, .slice o1 l1 c1, .slice o2 l2 c2, .int .i64 h.fr, .int .i64 h.en]] W (ListQ W (free1 [] h ps))) := fun W hq => HFC.out W hq hv hav
  have HRW : Hid (∀ W, Quiet0 W0 W -> Calls Tryz.prog 64 #[.agg #[.int .i64 h.k, .string h.nm, .int .i64 h.n, .int .i64 h.tk, .int .i64 h.tn, .slice o1 l1 c1, .slice o2 l2 c2, .int .i64 h.fr, .int .i64 h.en]] W (TmQ W (resH h ps) (resP h ps))) := fun W hq => HRC.out W hq hv hav
  have hE0 : rsvP h ps = (match free1 [] h ps with
   | [] => ((resH h ps, resP h ps), (0, 0), 0)
   | x :: _ => ((zeroN, .nil), (x.fr, x.en), 5)) := by unfold rsvP; rw [hr]; rfl
  have HLZ : Hid ((free1 [] h ps).length <= 100001) := by have := free1_len [] h ps; show _ <= _; omega
  clear HFC HRC hv hok hav
  generalize free1 [] h ps = L at *
  cases L with
  | nil =>
   have HE : Hid (rsvP h ps = ((resH h ps, resP h ps), (0, 0), 0)) := hE0
   clear hE0
   generalize resH h ps = g at *
   generalize resP h ps = gs at *
   go_enter Tryz.func41, Tryz.ntmps41
   go_upto_region 1 with fail
   rw [<- hW0]
   clear hW0
   generalize hB : w.heap.size = B at *
   have HBE := hid hB
   clear hB
   obtain ⟨a0, a1, a2, a3, a4, a5, a6, a7, a8⟩ := HC.out W0 (Quiet0.refl _)
   go_wp2_with fail
   refine HR.out.mono ?_; rintro x w1 ⟨rfl, hq1⟩
   clear a0 a1 a2 a3 a4 a5 a6 a7 a8
   obtain ⟨a0, a1, a2, a3, a4, a5, a6, a7, a8⟩ := HC.out w1 hq1
   have HQ1 := hid hq1
   clear hq1
   go_wp2_with fail
   refine (HFW.out w1 HQ1.out).mono ?_; rintro x w2 ⟨o, c, xs, rfl, hl, hq2⟩
   have HQ2 := hid (HQ1.out.trans hq2)
   clear hl hq2 a0 a1 a2 a3 a4 a5 a6 a7 a8
   obtain ⟨a0, a1, a2, a3, a4, a5, a6, a7, a8⟩ := HC.out w2 HQ2.out
   go_wp2_with fail
   refine (HRW.out w2 HQ2.out).mono ?_; rintro x w3 ⟨q1, m1, d1, q2, m2, d2, rfl, hg1, hg2, hq3⟩
   have HQ3 := hid (HQ2.out.trans hq3)
   have HG1 := hid hg1
   have HG2 := hid hg2
   have hz2 := HQ2.out.size
   have HZ0 : Hid (B + 3 <= W0.heap.size) := by show _ <= _; have := lt_of_block HB2.out; omega
   clear hq3 hg1 hg2 a0 a1 a2 a3 a4 a5 a6 a7 a8
   unfold tmv
   obtain ⟨hb1, hb2⟩ := HP.out w3 HQ3.out
   have HK1 := hid hb1
   have HK2 := hid hb2
   obtain ⟨⟨z0, z1, z2, z3, z4, z5, z6, z7, z8⟩, t0, t1, t2, t3, t4, t5, t6, t7, t8⟩ := block9 hb1
   obtain ⟨p0, p1, p2, p3⟩ := span_cells hb2
   clear hb1 hb2
   go_wp2_with fail
   clear z0 z1 z2 z3 z4 z5 z6 z7 z8 t0 t1 t2 t3 t4 t5 t6 t7 t8 p0 p1 p2 p3
   have hbf := put9_block (a0 := .int .i64 g.k) (a1 := .string g.nm) (a2 := .int .i64 g.n) (a3 := .int .i64 g.tk) (a4 := .int .i64 g.tn) (a5 := .slice q1 m1 d1) (a6 := .slice q2 m2 d2) (a7 := .int .i64 g.fr) (a8 := .int .i64 g.en) HK1.out
   have hf9 := put9_fr w3 (B + 1) (.int .i64 g.k) (.string g.nm) (.int .i64 g.n) (.int .i64 g.tk) (.int .i64 g.tn) (.slice q1 m1 d1) (.slice q2 m2 d2) (.int .i64 g.fr) (.int .i64 g.en)
   have hb2f := blk_fr hf9 (by omega) HK2.out
   have hf2 := put2_fr (put9 w3 (B + 1) (.int .i64 g.k) (.string g.nm) (.int .i64 g.n) (.int .i64 g.tk) (.int .i64 g.tn) (.slice q1 m1 d1) (.slice q2 m2 d2) (.int .i64 g.fr) (.int .i64 g.en)) (B + 2) (.int .i64 0) (.int .i64 0)
   have hbg := blk_fr hf2 (by omega) hbf
   have hbh := put2_block (u := .int .i64 0) (v := .int .i64 0) hb2f
   have hff : Fr (fun k => k = B + 1 ∨ k = B + 2) w3 (put2 (put9 w3 (B + 1) (.int .i64 g.k) (.string g.nm) (.int .i64 g.n) (.int .i64 g.tk) (.int .i64 g.tn) (.slice q1 m1 d1) (.slice q2 m2 d2) (.int .i64 g.fr) (.int .i64 g.en)) (B + 2) (.int .i64 0) (.int .i64 0)) := (hf9.mono (fun _ _ h => .inl h)).trans (hf2.mono (fun _ _ h => .inr h))
   change bodyPost _ _ _ _ _ (put2 (put9 w3 (B + 1) (.int .i64 g.k) (.string g.nm) (.int .i64 g.n) (.int .i64 g.tk) (.int .i64 g.tn) (.slice q1 m1 d1) (.slice q2 m2 d2) (.int .i64 g.fr) (.int .i64 g.en)) (B + 2) (.int .i64 0) (.int .i64 0))
   clear hbf hf9 hb2f hf2
   generalize (put2 (put9 w3 (B + 1) (.int .i64 g.k) (.string g.nm) (.int .i64 g.n) (.int .i64 g.tk) (.int .i64 g.tn) (.slice q1 m1 d1) (.slice q2 m2 d2) (.int .i64 g.fr) (.int .i64 g.en)) (B + 2) (.int .i64 0) (.int .i64 0)) = wf at *
   obtain ⟨⟨x0, x1, x2, x3, x4, x5, x6, x7, x8⟩, _⟩ := block9 hbg
   have s0 := (cell_of_row _ (B + 2) 0 _ _ (0, 0) hbh).trans (show _ = some (Value.int .i64 0) from rfl)
   have s1 := (cell_of_row _ (B + 2) 1 _ _ (0, 0) hbh).trans (show _ = some (Value.int .i64 0) from rfl)
   have HFIN : Hid (RsvQ w h ps (.returned (.tuple #[.agg #[.int .i64 g.k, .string g.nm, .int .i64 g.n, .int .i64 g.tk, .int .i64 g.tn, .slice q1 m1 d1, .slice q2 m2 d2, .int .i64 g.fr, .int .i64 g.en], .agg #[.int .i64 0, .int .i64 0], .int .i64 0])) wf) := by
    have hB := HBE.out
    have hz0 := HZ0.out
    have key : ∀ k, w2.heap.size <= k -> w.heap.size <= k /\ ¬ (k = B + 1 ∨ k = B + 2) := fun k hk => by omega
    exact ⟨g, gs, q1, m1, d1, q2, m2, d2, (0, 0), 0, rfl, HE.out, HG1.out.fr hff (fun k _ hk => key k hk), HG2.out.fr hff (fun k _ hk => key k hk), (HQ0.out.trans HQ3.out).trans' hff (fun k hk h => by omega)⟩
   clear hff hbg hbh
   refine bodyPost_ret (by simp [results, Tryz.results41, go_sem, x0, x1, x2, x3, x4, x5, x6, x7, x8, s0, s1]; rfl) rfl ?_
   exact HFIN.out
  | cons y L' =>
   have HE : Hid (rsvP h ps = ((zeroN, .nil), (y.fr, y.en), 5)) := hE0
   clear hE0 HRW
   have hpos : ((y :: L').length : Int) > 0 := by simp <;> omega
   have hpos' : (0 : Int) < ((y :: L').length : Int) := hpos
   generalize hn : (y :: L').length = n at *
   have HN := hid hn
   clear hn
   go_enter Tryz.func41, Tryz.ntmps41
   go_upto_region 1 with fail
   rw [<- hW0]
   clear hW0
   generalize hB : w.heap.size = B at *
   have HBE := hid hB
   clear hB
   obtain ⟨a0, a1, a2, a3, a4, a5, a6, a7, a8⟩ := HC.out W0 (Quiet0.refl _)
   go_wp2_with fail
   refine HR.out.mono ?_; rintro x w1 ⟨rfl, hq1⟩
   clear a0 a1 a2 a3 a4 a5 a6 a7 a8
   obtain ⟨a0, a1, a2, a3, a4, a5, a6, a7, a8⟩ := HC.out w1 hq1
   have HQ1 := hid hq1
   clear hq1
   go_wp2_with fail
   refine (HFW.out w1 HQ1.out).mono ?_; rintro x w2 ⟨o, c, xs, rfl, hl, hq2⟩
   have HQ2 := hid (HQ0.out.trans (HQ1.out.trans hq2))
   obtain ⟨g9, off, u1, v1, e1, u2, v2, e2, rfl, ⟨f0, f1, f2, f3, f4, f5, f6, f7, f8⟩⟩ := hl.heads 0 y rfl
   have hg9 := hl.2.2 g9 rfl
   have hz0 := lt_of_block HB2.out
   have hz1 := HQ1.out.size
   have hn1 : B + 1 ≠ g9 := by omega
   have hn2 : B + 2 ≠ g9 := by omega
   have hn3 : g9 ≠ B + 1 := by omega
   have hn4 : g9 ≠ B + 2 := by omega
   obtain ⟨hb1, hb2⟩ := HP.out w2 (HQ1.out.trans hq2)
   have HK1 := hid hb1
   have HK2 := hid hb2
   rw [HN.out]
   obtain ⟨⟨z0, z1, z2, z3, z4, z5, z6, z7, z8⟩, t0, t1, t2, t3, t4, t5, t6, t7, t8⟩ := block9 hb1
   obtain ⟨p0, p1, p2, p3⟩ := span_cells hb2
   clear hb1 hb2 hl hq2 a0 a1 a2 a3 a4 a5 a6 a7 a8
   rw [Nat.zero_mul, Nat.add_zero] at f0 f1 f2 f3 f4 f5 f6 f7 f8
   go_upto_region 5 with fail
   go_region
   go_wp2_with fail
   clear z0 z1 z2 z3 z4 z5 z6 z7 z8 t0 t1 t2 t3 t4 t5 t6 t7 t8 p0 p1 p2 p3
   have hbf := put9_block (a0 := .int .i64 0) (a1 := .string ⟨#[]⟩) (a2 := .int .i64 0) (a3 := .int .i64 0) (a4 := .int .i64 0) (a5 := .slice none 0 0) (a6 := .slice none 0 0) (a7 := .int .i64 0) (a8 := .int .i64 0) HK1.out
   have hf9 := put9_fr w2 (B + 1) (.int .i64 0) (.string ⟨#[]⟩) (.int .i64 0) (.int .i64 0) (.int .i64 0) (.slice none 0 0) (.slice none 0 0) (.int .i64 0) (.int .i64 0)
   have hb2f := blk_fr hf9 (by omega) HK2.out
   have hf2 := put2_fr (put9 w2 (B + 1) (.int .i64 0) (.string ⟨#[]⟩) (.int .i64 0) (.int .i64 0) (.int .i64 0) (.slice none 0 0) (.slice none 0 0) (.int .i64 0) (.int .i64 0)) (B + 2) (.int .i64 y.fr) (.int .i64 y.en)
   have hbg := blk_fr hf2 (by omega) hbf
   have hbh := put2_block (u := .int .i64 y.fr) (v := .int .i64 y.en) hb2f
   have hff : Fr (fun k => k = B + 1 ∨ k = B + 2) w2 (put2 (put9 w2 (B + 1) (.int .i64 0) (.string ⟨#[]⟩) (.int .i64 0) (.int .i64 0) (.int .i64 0) (.slice none 0 0) (.slice none 0 0) (.int .i64 0) (.int .i64 0)) (B + 2) (.int .i64 y.fr) (.int .i64 y.en)) := (hf9.mono (fun _ _ h => .inl h)).trans (hf2.mono (fun _ _ h => .inr h))
   replace hbg := blk_drew hbg
   replace hbh := blk_drew hbh
   replace hff := hff.trans (Fr.drew (fun k => k = B + 1 ∨ k = B + 2) (put2 (put9 w2 (B + 1) (.int .i64 0) (.string ⟨#[]⟩) (.int .i64 0) (.int .i64 0) (.int .i64 0) (.slice none 0 0) (.slice none 0 0) (.int .i64 0) (.int .i64 0)) (B + 2) (.int .i64 y.fr) (.int .i64 y.en)))
   change bodyPost _ _ _ _ _ ((put2 (put9 w2 (B + 1) (.int .i64 0) (.string ⟨#[]⟩) (.int .i64 0) (.int .i64 0) (.int .i64 0) (.slice none 0 0) (.slice none 0 0) (.int .i64 0) (.int .i64 0)) (B + 2) (.int .i64 y.fr) (.int .i64 y.en))).drew
   clear hbf hf9 hb2f hf2
   generalize ((put2 (put9 w2 (B + 1) (.int .i64 0) (.string ⟨#[]⟩) (.int .i64 0) (.int .i64 0) (.int .i64 0) (.slice none 0 0) (.slice none 0 0) (.int .i64 0) (.int .i64 0)) (B + 2) (.int .i64 y.fr) (.int .i64 y.en))).drew = wf at *
   obtain ⟨⟨x0, x1, x2, x3, x4, x5, x6, x7, x8⟩, _⟩ := block9 hbg
   have s0 := (cell_of_row _ (B + 2) 0 _ _ (0, 0) hbh).trans (show _ = some (Value.int .i64 y.fr) from rfl)
   have s1 := (cell_of_row _ (B + 2) 1 _ _ (0, 0) hbh).trans (show _ = some (Value.int .i64 y.en) from rfl)
   have HFIN : Hid (RsvQ w h ps (.returned (.tuple #[.agg #[.int .i64 0, .string ⟨#[]⟩, .int .i64 0, .int .i64 0, .int .i64 0, .slice none 0 0, .slice none 0 0, .int .i64 0, .int .i64 0], .agg #[.int .i64 y.fr, .int .i64 y.en], .int .i64 5])) wf) := by
    have hB := HBE.out
    exact ⟨zeroN, .nil, none, 0, 0, none, 0, 0, (y.fr, y.en), 5, rfl, HE.out, SlcIn.nil _ _ _, TSlc.nil _ _ _, HQ2.out.trans' hff (fun k hk h => by omega)⟩
   clear hff hbg hbh
   refine bodyPost_ret (by simp [results, Tryz.results41, go_sem, x0, x1, x2, x3, x4, x5, x6, x7, x8, s0, s1]; rfl) rfl ?_
   exact HFIN.out
end Sc
end
section
open Go.RowKit
namespace Sc
structure TmRowT (w : World) (T : Nat -> Prop) (v : Value) (f : To) (xs : List Value) : Prop where
 own : w.ownsRow 0 29 9 v f.length xs
 low : ∀ k, v.ownBlock = some k -> T k
 cells : RowT (fun k => T k /\ v.ownBlock ≠ some k) w xs f
theorem TmRowT.nil (w : World) (T : Nat -> Prop) : TmRowT w T (.slice none 0 0) .nil [] := ⟨World.ownsRow_nil _ _ _ _, fun k hk => (by cases hk), rfl⟩
theorem TmRowT.fr {w w' : World} {T : Nat -> Prop} {v : Value} {f : To} {xs : List Value} {S : Nat -> Prop} (h : TmRowT w T v f xs) (hf : Fr S w w') (hS : ∀ k, T k -> ¬ S k) : TmRowT w' T v f xs :=
 ⟨ownsRow_fr h.own hf (fun k hk hs => hS k (h.low k hk) hs), h.low, RowT.fr hf (fun k _ hk => ⟨hk, hS k hk.1⟩) f xs h.cells⟩
theorem TmRowT.stay {w w' : World} {T : Nat -> Prop} {v : Value} {f : To} {xs : List Value} (h : TmRowT w T v f xs) (hf : Quiet0 w w') : TmRowT w' T v f xs := h.fr hf (fun _ _ h => h)
theorem TmRowT.snoc {W w1 : World} {T : Nat -> Prop} {v : Value} {f : To} {xs : List Value} {h : Nd} {ps : To} {o1 : Option Addr} {l1 c1 : Nat} {o2 : Option Addr} {l2 c2 g c : Nat} (hr : TmRowT W T v f xs)
    (hs : SlcIn (fun k => T k /\ v.ownBlock ≠ some k) W o1 l1 h.tp) (ht : TSlc (fun k => T k /\ v.ownBlock ≠ some k) W o2 l2 ps)
    (ho : w1.ownsRow 0 29 9 (.slice (some ⟨g, 0, none⟩) (f.length + 1) c) (f.length + 1) (xs ++ (cells9 h o1 l1 c1 o2 l2 c2).toList)) (hf : Fr (fun k => v.ownBlock = some k) W w1) (hg : v.ownBlock = some g ∨ W.heap.size <= g) (hT : ∀ k, W.heap.size <= k -> T k) :
    TmRowT w1 T (.slice (some ⟨g, 0, none⟩) (f.length + 1) c) (f.app (.cons h ps .nil)) (xs ++ (cells9 h o1 l1 c1 o2 l2 c2).toList) := by
 refine ⟨by rw [To.app_length]; exact ho, ?_, ?_⟩
 ·intro k hk
  simp [Value.ownBlock] at hk
  subst hk
  rcases hg with h | h
  ·exact hr.low g h
  ·exact hT _ h
 ·have hk : ∀ k, k < W.heap.size -> (T k /\ v.ownBlock ≠ some k) -> ((T k /\ (Value.slice (some ⟨g, 0, none⟩) (f.length + 1) c).ownBlock ≠ some k) /\ ¬ v.ownBlock = some k) := by
    rintro k hk ⟨h1, h2⟩
    refine ⟨⟨h1, fun h => ?_⟩, h2⟩
    simp [Value.ownBlock] at h
    subst h
    rcases hg with h | h
    ·exact h2 h
    ·omega
  exact RowT.snoc (hs.fr hf hk) (ht.fr hf hk) f xs (RowT.fr hf hk f xs hr.cells)
theorem TmRowT.slc {w : World} {T : Nat -> Prop} {o : Option Addr} {len cap : Nat} {f : To} {xs : List Value} (h : TmRowT w T (.slice o len cap) f xs) (hl : len = f.length) (hm : len <= maxLen) : TSlc T w o len f := by
 refine ⟨hl, hm, fun h0 => ?_⟩
 rcases h.own.2 with ⟨_, h2⟩ | ⟨g, cap', cur, he, _⟩
 ·omega
 ·injection he with h1 h2 h3
  subst h1
  refine ⟨g, 0, rfl, RowT.at (h.low g rfl) f xs 0 (RowT.fr (Fr.refl (fun _ => False) w) (fun k _ hk => ⟨hk.1, fun h => h⟩) f xs h.cells) ?_⟩
  intro j u hj
  have := h.own.cells (g := g) rfl j u hj
  simpa [Addr.add_lit] using this
end Sc
end
section
open Go.RowKit Go.Shelf
namespace Sc
def okN (s : ByteArray) : Bool := Lx.nameB s.data.toList
def StrT (T : Nat -> Prop) (w : World) (o : Option Addr) (l : List ByteArray) : Prop := ∀ j s, l[j]? = some s -> ∃ b off, o = some ⟨b, off, none⟩ /\ T b /\ w.cell? ⟨b, off + j, none⟩ = some (.string s)
theorem StrT.nil (T : Nat -> Prop) (w : World) (o : Option Addr) : StrT T w o [] := fun j s h => by simp at h
theorem StrT.fr {T T' S : Nat -> Prop} {w w' : World} {o : Option Addr} {l : List ByteArray} (h : StrT T w o l) (hf : Fr S w w') (hT : ∀ k, k < w.heap.size -> T k -> T' k /\ ¬ S k) : StrT T' w' o l := by
 intro j s hs
 obtain ⟨b, off, h0, h1, h2⟩ := h j s hs
 have hb := World.block_lt_of_cell? w _ h2
 exact ⟨b, off, h0, (hT b hb h1).1, (hf.cellb hb (hT b hb h1).2).trans h2⟩
theorem StrT.stay {T : Nat -> Prop} {w w' : World} {o : Option Addr} {l : List ByteArray} (h : StrT T w o l) (hq : Quiet0 w w') : StrT T w' o l := h.fr hq (fun _ _ ht => ⟨ht, fun h => h⟩)
theorem StrT.head {T : Nat -> Prop} {w : World} {o : Option Addr} {s : ByteArray} {l : List ByteArray} (h : StrT T w o (s :: l)) : ∃ b off, o = some ⟨b, off, none⟩ /\ T b /\ w.cell? ⟨b, off, none⟩ = some (.string s) := by
 obtain ⟨b, off, h0, h1, h2⟩ := h 0 s rfl
 exact ⟨b, off, h0, h1, h2⟩
theorem StrT.tail {T : Nat -> Prop} {w : World} {b off : Nat} {s : ByteArray} {l : List ByteArray} (h : StrT T w (some ⟨b, off, none⟩) (s :: l)) : StrT T w (some ⟨b, off + 1, none⟩) l := by
 intro j t ht
 obtain ⟨b', off', h0, h1, h2⟩ := h (j + 1) t (by simpa using ht)
 injection h0 with h0; injection h0 with h3 h4
 subst h3 h4
 exact ⟨b, off + 1, rfl, h1, by rw [show off + 1 + j = off + (j + 1) by omega]; exact h2⟩
theorem nm_at {T : Nat -> Prop} {w : World} {o : Option Addr} {n : Nat} {e : List ByteArray} (h : NmIn T w o n e) (k : Nat) (hk : k < n) : ∃ b, o = some ⟨b, 0, none⟩ /\ w.cell? ⟨b, n - 1 - k, none⟩ = some (.string (e.getD k ByteArray.empty)) := by
 obtain ⟨b, h0, _, h2⟩ := h.2.2 (by omega)
 refine ⟨b, h0, h2 (n - 1 - k) _ ?_⟩
 have hn := h.1
 rw [List.getElem?_reverse (by omega), List.getD_eq_getElem?_getD, show e.length - 1 - (n - 1 - k) = k by omega]
 rw [List.getElem?_eq_getElem (by omega)]; rfl
def RcQ (ok : ByteArray -> Bool) (R L : Nat -> Prop) (w : World) (x y l : List ByteArray) (h : Nd) (ps : To) (o1 : Option Addr) (l1 c1 l2 : Nat) (z : Ending) (w' : World) : Prop :=
 ∃ (o2 : Option Addr) (c2 : Nat) (ro : Option Addr) (rc : Nat), z = .returned (.tuple #[tmv (call1 ok x y l h ps).1 o1 l1 c1 o2 l2 c2, .slice ro (call1 ok x y l h ps).2.2.length rc]) /\ TSlc (fun k => R k ∨ w.heap.size <= k) w' o2 l2 (call1 ok x y l h ps).2.1 /\
  StrT L w' ro (call1 ok x y l h ps).2.2 /\ (call1 ok x y l h ps).2.2.length <= rc /\ Quiet0 w w'
theorem restNm_len (h : Nd) (l : List ByteArray) : (restNm h l).length <= l.length := by unfold restNm; split <;> simp
theorem restNm_mem {h : Nd} {l : List ByteArray} {s : ByteArray} (hs : s ∈ restNm h l) : s ∈ l := by
 unfold restNm at hs; split at hs
 ·exact List.mem_of_mem_tail hs
 ·exact hs
theorem callR_rest (ok : ByteArray -> Bool) : ∀ (f : To) (bk : Int) (nm nm2 : ByteArray) (i : Nat) (x y l : List ByteArray), ((callR ok bk nm nm2 i x y l f).2.length <= l.length) /\ ∀ s ∈ (callR ok bk nm nm2 i x y l f).2, s ∈ l
 | .nil, _, _, _, _, _, _, _ => ⟨Nat.le_refl _, fun _ h => h⟩
 | .cons h ps r, bk, nm, nm2, i, x, y, l => by
  rw [callR_cons]
  have h1 := callR_rest ok r bk nm nm2 (i + 1) x y (call1 ok (envOf bk nm i x) (envOf bk nm2 i y) l h ps).2.2
  have h2 : (call1 ok (envOf bk nm i x) (envOf bk nm2 i y) l h ps).2.2.length <= l.length /\ ∀ s ∈ (call1 ok (envOf bk nm i x) (envOf bk nm2 i y) l h ps).2.2, s ∈ l := by
   unfold call1
   split
   ·exact ⟨Nat.le_refl _, fun _ h => h⟩
   ·have := callR_rest ok ps h.k h.nm (newNm ok h l) 0 (envOf bk nm i x) (envOf bk nm2 i y) (restNm h l)
    exact ⟨Nat.le_trans this.1 (restNm_len h l), fun s hs => restNm_mem (this.2 s hs)⟩
  exact ⟨Nat.le_trans h1.1 h2.1, fun s hs => h2.2 s (h1.2 s hs)⟩
theorem call1_rest (ok : ByteArray -> Bool) (x y l : List ByteArray) (h : Nd) (ps : To) : ((call1 ok x y l h ps).2.2.length <= l.length) /\ ∀ s ∈ (call1 ok x y l h ps).2.2, s ∈ l := by
 unfold call1
 split
 ·exact ⟨Nat.le_refl _, fun _ h => h⟩
 ·have := callR_rest ok ps h.k h.nm (newNm ok h l) 0 x y (restNm h l)
  exact ⟨Nat.le_trans this.1 (restNm_len h l), fun s hs => restNm_mem (this.2 s hs)⟩
theorem env_len (k : Int) (nm nm2 : ByteArray) (i : Nat) {x y : List ByteArray} (h : x.length = y.length) : (envOf k nm i x).length = (envOf k nm2 i y).length := by unfold envOf; split <;> simp [h]
end Sc
end
section
open Go.RowKit Go.Shelf
namespace Sc
theorem sound_nm {h : Nd} {m : Nat} {s : ByteArray} (hs : soundB h m = true) (hn : s = h.nm ∨ (kName h.k = true /\ okN s = true)) : soundB { h with nm := s } m = true := by
 rcases hn with rfl | ⟨k, o⟩
 ·exact hs
 ·unfold soundB at *
  simp only [Bool.and_eq_true] at *
  obtain ⟨⟨⟨⟨⟨⟨⟨a, b⟩, c⟩, d⟩, e⟩, f⟩, g⟩, i⟩ := hs
  refine ⟨⟨⟨⟨⟨⟨⟨a, b⟩, ?_⟩, d⟩, e⟩, f⟩, g⟩, i⟩
  unfold namedB
  rw [if_pos k]; exact o
theorem sound_name {h : Nd} {m : Nat} (hs : soundB h m = true) (hk : kName h.k = true) : okN h.nm = true := by
 unfold soundB at hs
 simp only [Bool.and_eq_true] at hs
 have hn : namedB h = true := hs.1.1.1.1.1.2
 unfold namedB at hn
 rw [if_pos hk] at hn
 exact hn
theorem bind_name {k : Int} (h : bindK k = true) : kName k = true := by unfold bindK at h; unfold kName; simp at h ⊢; omega
theorem newNm_ok {h : Nd} {m : Nat} (_ : soundB h m = true) (l : List ByteArray) : newNm okN h l = h.nm ∨ (kName h.k = true /\ okN (newNm okN h l) = true) := by
 unfold newNm
 split
 ·exact .inl rfl
 ·split
  ·rename_i a _ hc
   simp only [Bool.and_eq_true] at hc
   exact .inr ⟨bind_name hc.1, hc.2⟩
  ·exact .inl rfl
theorem newNm_bind {h : Nd} {m : Nat} (hs : soundB h m = true) (l : List ByteArray) (hb : bindK h.k = true) : okN (newNm okN h l) = true := by
 rcases newNm_ok hs l with h' | h'
 ·rw [h']; exact sound_name hs (bind_name hb)
 ·exact h'.2
theorem binds_bind {k : Int} {i : Nat} (h : bindsB k i = true) : bindK k = true := by
 unfold bindsB at h; unfold bindK; simp at h ⊢; omega
theorem varNm_ok {h : Nd} {m : Nat} (_ : soundB h m = true) (hk : h.k = 1) {x y : List ByteArray} (hxy : x.length = y.length) (hy : ∀ s ∈ y, okN s = true) : varNm x y h.nm = h.nm ∨ (kName h.k = true /\ okN (varNm x y h.nm) = true) := by
 unfold varNm
 split
 ·rename_i h0
  have hl := (ix_ge x h.nm).2
  refine .inr ⟨by rw [hk]; rfl, ?_⟩
  rw [List.getD_eq_getElem?_getD, List.getElem?_eq_getElem (by omega)]
  exact hy _ (List.getElem_mem _)
 ·exact .inl rfl
theorem callR_right : ∀ (f : To) (bk : Int) (nm nm2 : ByteArray) (i : Nat) (x y l : List ByteArray), x.length = y.length -> (∀ s ∈ y, okN s = true) -> (bindK bk = true -> okN nm2 = true) -> allS f = true -> allS (callR okN bk nm nm2 i x y l f).1 = true
 | .nil, _, _, _, _, _, _, _, _, _, _, h => h
 | .cons h ps r, bk, nm, nm2, i, x, y, l, hxy, hy, hn, hs => by
  rw [allS_cons, Bool.and_eq_true, Bool.and_eq_true] at hs
  obtain ⟨⟨h1, h2⟩, h3⟩ := hs
  have hxy' : (envOf bk nm i x).length = (envOf bk nm2 i y).length := by unfold envOf; split <;> simp [hxy]
  have hy' : ∀ s ∈ envOf bk nm2 i y, okN s = true := by
   unfold envOf; split
   ·rename_i hb
    intro s hs
    rcases List.mem_cons.1 hs with rfl | h
    ·exact hn (binds_bind hb)
    ·exact hy s h
   ·exact hy
  rw [callR_cons, allS_cons, Bool.and_eq_true, Bool.and_eq_true]
  refine ⟨?_, callR_right r _ _ _ _ _ _ _ hxy hy hn h3⟩
  unfold call1
  by_cases hk : h.k = 1
  ·simp only [if_pos hk]
   exact ⟨sound_nm h1 (varNm_ok h1 hk hxy' hy'), h2⟩
  ·simp only [if_neg hk]
   rw [callR_length]
   exact ⟨sound_nm h1 (newNm_ok h1 l), callR_right ps _ _ _ _ _ _ _ hxy' hy' (newNm_bind h1 l) h2⟩
theorem call_right {h : Nd} {ps : To} (l : List ByteArray) (hr : RT h ps = true) : RT (call1 okN [] [] l h ps).1 (call1 okN [] [] l h ps).2.1 = true :=
 callR_right (.cons h ps .nil) 0 ByteArray.empty ByteArray.empty 0 [] [] l rfl (fun s hs => by cases hs) (fun h => by cases h) hr
def renN (h : Nd) (ps : To) (l : List ByteArray) : Nd × To := if refA1 [] [] (call1 okN [] [] l h ps).1 (call1 okN [] [] l h ps).2.1 h ps then ((call1 okN [] [] l h ps).1, (call1 okN [] [] l h ps).2.1) else (h, ps)
theorem ren_alike (h : Nd) (ps : To) (l : List ByteArray) : refA1 [] [] (renN h ps l).1 (renN h ps l).2 h ps = true := by
 unfold renN; split
 ·assumption
 ·exact refA1_refl [] h ps
theorem ren_right {h : Nd} {ps : To} (l : List ByteArray) (hr : RT h ps = true) : RT (renN h ps l).1 (renN h ps l).2 = true := by
 unfold renN; split
 ·exact call_right l hr
 ·exact hr
theorem ren_free (h : Nd) (ps : To) (l : List ByteArray) : free1 [] (renN h ps l).1 (renN h ps l).2 = [] ↔ free1 [] h ps = [] := by
 have k := alike_free (.cons (renN h ps l).1 (renN h ps l).2 .nil) (.cons h ps .nil) 0 ByteArray.empty 0 ByteArray.empty 0 [] [] (by
  rw [refAR_cons]
  exact (Bool.and_true _).trans (ren_alike h ps l))
 rw [freeL_cons, freeL_cons] at k
 have e : ∀ (a : List Nd), a ++ freeL 0 ByteArray.empty (0 + 1) [] To.nil = a := fun a => List.append_nil a
 rw [e, e] at k
 exact k
theorem ren_rsv {h : Nd} {ps : To} (l : List ByteArray) (hr : RT h ps = true) : (rsvP (renN h ps l).1 (renN h ps l).2).2.2 = (rsvP h ps).2.2 := by
 have hf := ren_free h ps l
 unfold rsvP
 rw [if_pos (ren_right l hr), if_pos hr]
 cases h1 : free1 [] (renN h ps l).1 (renN h ps l).2 with
 | nil => rw [hf.1 h1]
 | cons a r =>
  cases h2 : free1 [] h ps with
  | nil => rw [hf.2 h2] at h1; cases h1
  | cons b r' => rfl
end Sc
namespace Cn
end Cn
end
section
namespace Em
open Sc (bindsB envOf refA1 refAR ix ixE renN)
def run (most : Int) (h : Nd) (ps : To) : Mk := (termM most h ps [] ⟨[], 0, false⟩).2
theorem run_le {M : Nat} {h : Nd} {ps : To} (hm : (run M h ps).many = false) : (run M h ps).eqs.length <= M := by
 rcases (termM_step (M := (M : Int)) (N := (M : Int)) (n := M) rfl (Int.le_refl _) h ps).lock ⟨[], 0, false⟩ rfl (Nat.zero_le _) with ⟨_, h2, _⟩ | ⟨h1, _⟩
 ·exact h2
 ·unfold run at hm; rw [hm] at h1; cases h1
theorem run_same {M : Nat} {h : Nd} {ps : To} (hm : (run M h ps).many = false) : run ((run M h ps).eqs.length : Nat) h ps = run M h ps := by
 have hl := run_le hm
 rcases (termM_step (M := (M : Int)) (N := ((run M h ps).eqs.length : Int)) (n := (run M h ps).eqs.length) rfl (by omega) h ps).lock ⟨[], 0, false⟩ rfl (Nat.zero_le _) with ⟨_, _, h3⟩ | ⟨_, h2⟩
 ·unfold run at *; rw [h3]
 ·rcases h2 with h2 | h2
  ·unfold run at hm; rw [hm] at h2; cases h2
  ·exact absurd h2 (Nat.lt_irrefl _)
theorem run_less {M k : Nat} {h : Nd} {ps : To} (hm : (run M h ps).many = false) (hk : k < (run M h ps).eqs.length) : (run k h ps).many = true := by
 have hl := run_le hm
 rcases (termM_step (M := (M : Int)) (N := (k : Int)) (n := k) rfl (by omega) h ps).lock ⟨[], 0, false⟩ rfl (Nat.zero_le _) with ⟨_, h2, _⟩ | ⟨h1, _⟩
 ·exact absurd h2 (by unfold run at hk; omega)
 ·exact h1
theorem lookE_alike (s s' : ByteArray) : ∀ (e e' : Env) (k : Nat), e.map (·.2) = e'.map (·.2) -> ixE (e.map (·.1)) s k = ixE (e'.map (·.1)) s' k -> lookE e s = lookE e' s'
 | [], [], _, _, _ => rfl
 | [], _ :: _, _, h, _ => by simp at h
 | _ :: _, [], _, h, _ => by simp at h
 | (a, v) :: r, (a', v') :: r', k, h, hi => by
  simp only [List.map_cons, List.cons.injEq] at h
  obtain ⟨rfl, h⟩ := h
  simp only [List.map_cons, ixE] at hi
  unfold lookE
  have key : ∀ (l : List ByteArray) (t : ByteArray), ixE l t (k + 1) ≠ (k : Int) := fun l t hc => by
   rcases Sc.ixE_spec l t (k + 1) with ⟨h1, _⟩ | ⟨j, h1, _⟩ <;> omega
  by_cases h1 : a = s
  ·by_cases h2 : a' = s'
   ·rw [if_pos h1, if_pos h2]
   ·rw [if_pos h1, if_neg h2] at hi
    exact absurd hi.symm (key _ _)
  ·by_cases h2 : a' = s'
   ·rw [if_neg h1, if_pos h2] at hi
    exact absurd hi (key _ _)
   ·rw [if_neg h1, if_neg h2] at hi
    rw [if_neg h1, if_neg h2]
    exact lookE_alike s s' r r' (k + 1) h hi
def sameB : To -> To -> Prop
 | .nil, .nil => True
 | .cons h ps r, .cons h' ps' r' => (∃ s, h = { h' with nm := s }) /\ sameB ps ps' /\ sameB r r'
 | _, _ => False
theorem sameB_refl : ∀ f : To, sameB f f
 | .nil => trivial
 | .cons h ps r => ⟨⟨h.nm, rfl⟩, sameB_refl ps, sameB_refl r⟩
theorem callR_sameB (ok : ByteArray -> Bool) : ∀ (f : To) (bk : Int) (nm nm2 : ByteArray) (i : Nat) (x y l : List ByteArray), sameB (Sc.callR ok bk nm nm2 i x y l f).1 f
 | .nil, _, _, _, _, _, _, _ => trivial
 | .cons h ps r, bk, nm, nm2, i, x, y, l => by
  rw [Sc.callR_cons]
  refine ⟨Sc.call1_head ok _ _ _ h ps, ?_, callR_sameB ok r _ _ _ _ _ _ _⟩
  unfold Sc.call1; split
  ·exact sameB_refl ps
  ·exact callR_sameB ok ps _ _ _ _ _ _ _
theorem ren_sameB (h : Nd) (ps : To) (l : List ByteArray) : (∃ s, (renN h ps l).1 = { h with nm := s }) /\ sameB (renN h ps l).2 ps := by
 unfold Sc.renN; split
 ·refine ⟨Sc.call1_head Sc.okN [] [] l h ps, ?_⟩
  unfold Sc.call1; split
  ·exact sameB_refl ps
  ·exact callR_sameB Sc.okN ps _ _ _ _ _ _ _
 ·exact ⟨⟨h.nm, rfl⟩, sameB_refl ps⟩
theorem sameB_span : ∀ (f g : To) (i : Nat), sameB f g -> spanAt f i = spanAt g i
 | .nil, .nil, _, _ => rfl
 | .nil, .cons _ _ _, _, h => h.elim
 | .cons _ _ _, .nil, _, h => h.elim
 | .cons h ps r, .cons h' ps' r', 0, ⟨⟨s, e⟩, _, _⟩ => by subst e; rfl
 | .cons h ps r, .cons h' ps' r', i + 1, ⟨_, _, e⟩ => sameB_span r r' i e
def RelV {α : Type} (bk : Int) (nm : ByteArray) (bk' : Int) (nm' : ByteArray) (x y : List ByteArray) : Nat -> List (Env -> α) -> List (Env -> α) -> Prop
 | _, [], [] => True
 | i, v :: vs, v' :: vs' => (∀ e e' : Env, e.map (·.1) = envOf bk nm i x -> e'.map (·.1) = envOf bk' nm' i y -> e.map (·.2) = e'.map (·.2) -> v e = v' e') /\ RelV bk nm bk' nm' x y (i + 1) vs vs'
 | _, _, _ => False
theorem RelV.getD {α : Type} {d : α} {bk : Int} {nm : ByteArray} {bk' : Int} {nm' : ByteArray} {x y : List ByteArray} : ∀ (i j : Nat) (vs vs' : List (Env -> α)), RelV bk nm bk' nm' x y i vs vs' -> ∀ e e' : Env, e.map (·.1) = envOf bk nm (i + j) x -> e'.map (·.1) = envOf bk' nm' (i + j) y -> e.map (·.2) = e'.map (·.2) ->
    vs.getD j (fun _ => d) e = vs'.getD j (fun _ => d) e'
 | _, _, [], [], _, _, _, _, _, _ => by simp
 | _, _, [], _ :: _, h, _, _, _, _, _ => h.elim
 | _, _, _ :: _, [], h, _, _, _, _, _ => h.elim
 | i, 0, v :: vs, v' :: vs', h, e, e', h1, h2, h3 => h.1 e e' h1 h2 h3
 | i, j + 1, v :: vs, v' :: vs', h, e, e', h1, h2, h3 => by
  have := RelV.getD (d := d) (i + 1) j vs vs' h.2 e e' (by rw [h1]; congr 1; omega) (by rw [h2]; congr 1; omega) h3
  simpa using this
theorem RelV.map {bk : Int} {nm : ByteArray} {bk' : Int} {nm' : ByteArray} {x y : List ByteArray} (hb : ∀ j, bindsB bk j = false) (hb' : ∀ j, bindsB bk' j = false) : ∀ (i : Nat) (vs vs' : List (Env -> Pm Ty)), RelV bk nm bk' nm' x y i vs vs' -> ∀ (e e' : Env), e.map (·.1) = x -> e'.map (·.1) = y -> e.map (·.2) = e'.map (·.2) ->
    mapE e vs = mapE e' vs'
 | _, [], [], _, _, _, _, _, _ => rfl
 | _, [], _ :: _, h, _, _, _, _, _ => h.elim
 | _, _ :: _, [], h, _, _, _, _, _ => h.elim
 | i, v :: vs, v' :: vs', h, e, e', h1, h2, h3 => by
  have hv : v e = v' e' := h.1 e e' (by unfold envOf; rw [hb]; exact h1) (by unfold envOf; rw [hb']; exact h2) h3
  unfold mapE
  rw [hv, RelV.map hb hb' (i + 1) vs vs' h.2 e e' h1 h2 h3]
theorem env_cons (k : Int) (nm : ByteArray) (j : Nat) (x : List ByteArray) (h : bindsB k j = true) : envOf k nm j x = nm :: x := by unfold Sc.envOf; rw [h]; rfl
theorem env_same (k : Int) (nm : ByteArray) (j : Nat) (x : List ByteArray) (h : bindsB k j = false) : envOf k nm j x = x := by unfold Sc.envOf; rw [h]; rfl
theorem oneM_alike (most : Int) (h : Nd) (s : ByteArray) (ps ps' : To) (hp : sameB ps ps') (vs vs' : List (Env -> Pm Ty)) (e e' : Env) (hv : e.map (·.2) = e'.map (·.2)) (h1 : h.k = 1 -> ix (e.map (·.1)) s = ix (e'.map (·.1)) h.nm) (hr : h.k ≠ 1 -> RelV h.k s h.k h.nm (e.map (·.1)) (e'.map (·.1)) 0 vs vs') :
    oneM most { h with nm := s } ps vs e = oneM most h ps' vs' e' := by
 unfold oneM
 dsimp only
 have hsp : ∀ i, spanAt ps i = spanAt ps' i := fun i => sameB_span ps ps' i hp
 rw [hsp 0, hsp 1, hsp 2]
 congr 1
 funext own
 congr 1
 by_cases c2 : h.k = 2
 ·rw [if_pos c2, if_pos c2]
 rw [if_neg c2, if_neg c2]
 by_cases c3 : h.k = 3
 ·rw [if_pos c3, if_pos c3]
 rw [if_neg c3, if_neg c3]
 by_cases c1 : h.k = 1
 ·rw [if_pos c1, if_pos c1, lookE_alike s h.nm e e' 0 hv (h1 c1)]
 rw [if_neg c1, if_neg c1]
 have r := hr c1
 by_cases c4 : h.k = 4
 ·rw [if_pos c4, if_pos c4]
  have b : ∀ j, bindsB h.k j = true := fun j => by rw [c4]; rfl
  congr 1
  funext t
  have v0 : vat vs 0 ((s, pu t) :: e) = vat vs' 0 ((h.nm, pu t) :: e') := RelV.getD (d := pu (tv 0)) 0 0 vs vs' r ((s, pu t) :: e) ((h.nm, pu t) :: e') (by rw [env_cons _ _ _ _ (b _)]; rfl) (by rw [env_cons _ _ _ _ (b _)]; rfl) (by simp [hv])
  rw [v0]
 rw [if_neg c4, if_neg c4]
 by_cases c6 : h.k = 6
 ·rw [if_pos c6, if_pos c6]
  have b0 : bindsB h.k 0 = false := by rw [c6]; rfl
  have b1 : bindsB h.k 1 = true := by rw [c6]; rfl
  have v0 : vat vs 0 e = vat vs' 0 e' := RelV.getD (d := pu (tv 0)) 0 0 vs vs' r e e' (by rw [env_same _ _ _ _ b0]) (by rw [env_same _ _ _ _ b0]) hv
  have v1 : (fun c => vat vs 1 ((s, c) :: e)) = fun c => vat vs' 1 ((h.nm, c) :: e') := funext fun c => RelV.getD (d := pu (tv 0)) 0 1 vs vs' r ((s, c) :: e) ((h.nm, c) :: e') (by rw [env_cons _ _ _ _ b1]; rfl) (by rw [env_cons _ _ _ _ b1]; rfl) (by simp [hv])
  rw [v0, v1]
  rfl
 rw [if_neg c6, if_neg c6]
 by_cases c7 : h.k = 7
 ·rw [if_pos c7, if_pos c7]
  have b : ∀ j, bindsB h.k j = true := fun j => by rw [c7]; rfl
  have v0 : ∀ t : Ty, vat vs 0 ((s, pu t) :: e) = vat vs' 0 ((h.nm, pu t) :: e') := fun t => RelV.getD (d := pu (tv 0)) 0 0 vs vs' r ((s, pu t) :: e) ((h.nm, pu t) :: e') (by rw [env_cons _ _ _ _ (b _)]; rfl) (by rw [env_cons _ _ _ _ (b _)]; rfl) (by simp [hv])
  have v1 : (fun c => vat vs 1 ((s, c) :: e)) = fun c => vat vs' 1 ((h.nm, c) :: e') := funext fun c => RelV.getD (d := pu (tv 0)) 0 1 vs vs' r ((s, c) :: e) ((h.nm, c) :: e') (by rw [env_cons _ _ _ _ (b _)]; rfl) (by rw [env_cons _ _ _ _ (b _)]; rfl) (by simp [hv])
  have v2 : (fun v : Ty => bd (vat vs 0 ((s, pu v) :: e)) fun t => bd (eqP most v t h.fr h.en) fun _ => pu v) = fun v => bd (vat vs' 0 ((h.nm, pu v) :: e')) fun t => bd (eqP most v t h.fr h.en) fun _ => pu v := funext fun v => by rw [v0]
  rw [v2, v1]
  rfl
 rw [if_neg c7, if_neg c7]
 have b : ∀ j, bindsB h.k j = false := fun j => by unfold Sc.bindsB; simp [c4, c6, c7]
 rw [RelV.map b b 0 vs vs' r e e' rfl rfl hv]
theorem valsM_alike (most : Int) : ∀ (f g : To) (bk : Int) (nm : ByteArray) (bk' : Int) (nm' : ByteArray) (i : Nat) (x y : List ByteArray), refAR bk nm bk' nm' i x y f g = true -> sameB f g -> RelV bk nm bk' nm' x y i (valsM most f) (valsM most g)
 | .nil, .nil, _, _, _, _, _, _, _, _, _ => trivial
 | .nil, .cons _ _ _, _, _, _, _, _, _, _, _, h => h.elim
 | .cons _ _ _, .nil, _, _, _, _, _, _, _, _, h => h.elim
 | .cons h ps r, .cons h' ps' r', bk, nm, bk', nm', i, x, y, e, ⟨⟨s, es⟩, sp, sr⟩ => by
  rw [Sc.refAR_cons, Bool.and_eq_true] at e
  subst es
  refine ⟨fun e1 e1' hx hy hv => ?_, valsM_alike most r r' _ _ _ _ _ _ _ e.2 sr⟩
  obtain ⟨k1, k2, k3⟩ := Cn.alike_parts e.1
  refine oneM_alike most h' s ps ps' sp _ _ e1 e1' hv (fun c => by rw [hx, hy]; exact k2 c) (fun c => ?_)
  rw [hx, hy]
  exact valsM_alike most ps ps' _ _ _ _ _ _ _ (k3 c) sp
theorem run_ren (most : Int) (h : Nd) (ps : To) (l : List ByteArray) : run most (renN h ps l).1 (renN h ps l).2 = run most h ps := by
 have ha := Sc.ren_alike h ps l
 obtain ⟨⟨s, hs⟩, hp⟩ := ren_sameB h ps l
 generalize (renN h ps l).1 = g at *
 generalize (renN h ps l).2 = gs at *
 subst hs
 obtain ⟨k1, k2, k3⟩ := Cn.alike_parts ha
 have : termM most { h with nm := s } gs [] = termM most h ps [] := oneM_alike most h s gs ps hp _ _ [] [] rfl k2 (fun c => valsM_alike most gs ps _ _ _ _ _ _ _ (k3 c) hp)
 unfold run
 rw [this]
end Em
end
section
namespace Em
def Pos {α : Type} (f : Pm α) : Prop := ∀ m, (f m).2.many = false -> 1 <= (f m).2.eqs.length
theorem Pos.bind {α β : Type} {f : Pm α} {g : α -> Pm β} (h : ∀ a, Pos (g a)) : Pos (bd f g) := fun _ hm => h _ _ hm
theorem Pos.eq (most : Int) (l r : Ty) (fr en : Int) (own : Ty) : Pos (bd (eqP most l r fr en) fun _ => pu own) := by
 intro m hm
 unfold Em.bd Em.eqP Em.pu at *
 dsimp only at *
 split at hm
 ·simp at hm
 ·rename_i h
  rw [if_neg h]; simp
theorem run_pos {M : Int} {h : Nd} {ps : To} (h1 : 1 <= h.k) (h10 : h.k <= 10) (hm : (run M h ps).many = false) : 1 <= (run M h ps).eqs.length := by
 have key : ∀ own, Pos (
     if h.k = 2 then bd (eqP M own (2, 0, .nil) h.fr h.en) fun _ => pu own
     else if h.k = 3 then bd (eqP M own (3, 0, .nil) h.fr h.en) fun _ => pu own
     else if h.k = 1 then bd (lookE [] h.nm) fun t => bd (eqP M own t h.fr h.en) fun _ => pu own
     else if h.k = 4 then bd takeP fun b => bd (vat (valsM M ps) 0 ((h.nm, pu b) :: [])) fun t => bd (eqP M own (arrT b t) h.fr h.en) fun _ => pu own
     else if h.k = 6 then bd (letP M h (vat (valsM M ps) 0 []) fun c => vat (valsM M ps) 1 ((h.nm, c) :: [])) fun t => bd (eqP M own t h.fr h.en) fun _ => pu own
     else if h.k = 7 then bd (letP M h (bd takeP fun v => bd (vat (valsM M ps) 0 ((h.nm, pu v) :: [])) fun t => bd (eqP M v t h.fr h.en) fun _ => pu v) fun c => vat (valsM M ps) 1 ((h.nm, c) :: [])) fun t => bd (eqP M own t h.fr h.en) fun _ => pu own
     else bd (mapE [] (valsM M ps)) fun p =>
      if h.k = 5 then bd (eqP M (tat p 0) (arrT (tat p 1) own) h.fr h.en) fun _ => pu own
      else if h.k = 8 then bd (eqP M (tat p 0) (3, 0, .nil) (spanAt ps 0).1 (spanAt ps 0).2) fun _ => bd (eqP M own (tat p 1) (spanAt ps 1).1 (spanAt ps 1).2) fun _ => bd (eqP M own (tat p 2) (spanAt ps 2).1 (spanAt ps 2).2) fun _ => pu own
      else if h.k = 9 then bd (eqP M own (5, 0, foOf p) h.fr h.en) fun _ => pu own
      else if h.k = 10 then bd (eqP M (tat p 0) (h.tk, h.tn, h.tp) (spanAt ps 0).1 (spanAt ps 0).2) fun _ => bd (eqP M own (h.tk, h.tn, h.tp) h.fr h.en) fun _ => pu own
      else pu own) := by
  intro own
  split
  ·exact Pos.eq _ _ _ _ _ _
  split
  ·exact Pos.eq _ _ _ _ _ _
  split
  ·exact Pos.bind fun _ => Pos.eq _ _ _ _ _ _
  split
  ·exact Pos.bind fun _ => Pos.bind fun _ => Pos.eq _ _ _ _ _ _
  split
  ·exact Pos.bind fun _ => Pos.eq _ _ _ _ _ _
  split
  ·exact Pos.bind fun _ => Pos.eq _ _ _ _ _ _
  refine Pos.bind fun p => ?_
  split
  ·exact Pos.eq _ _ _ _ _ _
  split
  ·exact Pos.bind fun _ => Pos.bind fun _ => Pos.eq _ _ _ _ _ _
  split
  ·exact Pos.eq _ _ _ _ _ _
  split
  ·exact Pos.bind fun _ => Pos.eq _ _ _ _ _ _
  ·omega
 exact key (tv 0) ⟨[], 1, false⟩ hm
end Em
end
section
namespace Em
def okK : To -> Prop
 | .nil => True
 | .cons h ps r => (1 <= h.k /\ h.k <= 10 /\ ((h.k = 2 ∨ h.k = 3) -> ps = .nil)) /\ okK ps /\ okK r
end Em
end
section
namespace Em
def NM {α : Type} (f : Pm α) : Prop := ∀ m, m.next <= (f m).2.next /\ m.eqs.length <= (f m).2.eqs.length
theorem NM.pure {α : Type} (a : α) : NM (pu a) := fun _ => ⟨Nat.le_refl _, Nat.le_refl _⟩
theorem NM.bind {α β : Type} {f : Pm α} {g : α -> Pm β} (h : NM f) (k : ∀ a, NM (g a)) : NM (bd f g) := fun m => ⟨Nat.le_trans (h m).1 (k _ _).1, Nat.le_trans (h m).2 (k _ _).2⟩
theorem NM.getP : NM getP := fun _ => ⟨Nat.le_refl _, Nat.le_refl _⟩
theorem NM.take : NM takeP := fun _ => ⟨Nat.le_succ _, Nat.le_refl _⟩
theorem NM.bump (d : Nat) : NM (bumpP d) := fun m => ⟨by show m.next <= m.next + d; omega, Nat.le_refl _⟩
theorem eqP_next (most : Int) (l r : Ty) (fr en : Int) (m : Mk) : (eqP most l r fr en m).2.next = m.next := by unfold eqP; dsimp only; split <;> rfl
theorem eqP_len (most : Int) (l r : Ty) (fr en : Int) (m : Mk) : m.eqs.length <= (eqP most l r fr en m).2.eqs.length := by
 unfold eqP; dsimp only; split
 ·exact Nat.le_refl _
 ·simp
theorem NM.eqn (most : Int) (l r : Ty) (fr en : Int) : NM (eqP most l r fr en) := fun m => ⟨by rw [eqP_next]; exact Nat.le_refl _, eqP_len _ _ _ _ _ _⟩
theorem NM.many {α : Type} (x : α) {f : Pm α} (h : NM f) : NM (ifMany x f) := fun m => by
 unfold ifMany
 split
 ·exact ⟨Nat.le_refl _, Nat.le_refl _⟩
 ·exact h m
theorem NM.ite {α : Type} {c : Prop} [Decidable c] {f g : Pm α} (h1 : NM f) (h2 : NM g) : NM (if c then f else g) := by
 by_cases hc : c
 ·rw [if_pos hc]; exact h1
 ·rw [if_neg hc]; exact h2
theorem kept_next (most : Int) (sh : Ty -> Ty) : ∀ (l : List Eqn) (m : Mk), (keptP most sh l m).2.next = m.next
 | [], _ => rfl
 | e :: r, m => by
  unfold keptP ifMany
  split
  ·rfl
  ·show (keptP most sh r (eqP most (sh e.1) (sh e.2.1) e.2.2.1 e.2.2.2 m).2).2.next = m.next
   rw [kept_next most sh r, eqP_next]
def NE (e : Env) : Prop := ∀ x ∈ e, NM x.2
theorem NE.nil : NE [] := fun x hx => by cases hx
theorem NE.cons {e : Env} (h : NE e) {s : ByteArray} {f : Pm Ty} (hf : NM f) : NE ((s, f) :: e) := fun x hx => by
 rcases List.mem_cons.1 hx with rfl | hx
 ·exact hf
 ·exact h x hx
theorem lookE_nm : ∀ (e : Env) (s : ByteArray), NE e -> NM (lookE e s)
 | [], s, _ => NM.pure _
 | x :: r, s, h => by
  unfold lookE
  exact NM.ite (h x (by simp)) (lookE_nm r s (fun y hy => h y (by simp [hy])))
def VN (v : Env -> Pm Ty) : Prop := ∀ e, NE e -> NM (v e)
theorem vat_nm {vs : List (Env -> Pm Ty)} (hv : ∀ v ∈ vs, VN v) (i : Nat) {e : Env} (he : NE e) : NM (vat vs i e) := by
 unfold vat
 rw [List.getD_eq_getElem?_getD]
 cases hi : vs[i]? with
 | none => exact NM.pure _
 | some v => exact hv v (List.mem_of_getElem? hi) e he
theorem mapE_nm {e : Env} (he : NE e) : ∀ {vs : List (Env -> Pm Ty)}, (∀ v ∈ vs, VN v) -> NM (mapE e vs)
 | [], _ => NM.pure _
 | v :: r, h => NM.bind (h v (by simp) e he) fun t => NM.bind (mapE_nm he (fun u hu => h u (by simp [hu]))) fun l => NM.pure _
theorem keptP_nm (most : Int) (sh : Ty -> Ty) : ∀ l : List Eqn, NM (keptP most sh l)
 | [] => NM.pure _
 | _ :: r => NM.many _ (NM.bind (NM.eqn _ _ _ _ _) fun _ => keptP_nm most sh r)
theorem copied_nm (most : Int) (kept : List Eqn) (v : Ty) (fr tt : Nat) : NM (copied most kept v fr tt) := NM.bind NM.getP fun _ => NM.bind (NM.bump _) fun _ => NM.bind (keptP_nm _ _ _) fun _ => NM.pure _
theorem letP_nm (most : Int) (h : Nd) {f : Pm Ty} {g : Pm Ty -> Pm Ty} (hf : NM f) (hg : ∀ c, NM c -> NM (g c)) : NM (letP most h f g) :=
 NM.bind NM.getP fun _ => NM.bind hf fun _ => NM.bind NM.getP fun _ => hg _ (copied_nm _ _ _ _ _)
theorem oneM_nm (most : Int) (h : Nd) (ps : To) {vs : List (Env -> Pm Ty)} (hv : ∀ v ∈ vs, VN v) : VN (oneM most h ps vs) := by
 intro e he
 unfold oneM
 have fin : ∀ (l r own : Ty) (fr en : Int), NM (bd (eqP most l r fr en) fun _ => pu own) := fun l r own fr en => NM.bind (NM.eqn _ _ _ _ _) fun _ => NM.pure _
 refine NM.bind NM.take fun own => NM.many _ (NM.ite (fin _ _ _ _ _) (NM.ite (fin _ _ _ _ _) (NM.ite (NM.bind (lookE_nm e _ he) fun _ => fin _ _ _ _ _) (NM.ite ?_ (NM.ite ?_ (NM.ite ?_ (NM.bind (mapE_nm he hv) fun p => ?_)))))))
 ·exact NM.bind NM.take fun b => NM.bind (vat_nm hv 0 (he.cons (NM.pure b))) fun _ => fin _ _ _ _ _
 ·exact NM.bind (letP_nm _ _ (vat_nm hv 0 he) fun c hc => vat_nm hv 1 (he.cons hc)) fun _ => fin _ _ _ _ _
 ·exact NM.bind (letP_nm _ _ (NM.bind NM.take fun v => NM.bind (vat_nm hv 0 (he.cons (NM.pure v))) fun _ => NM.bind (NM.eqn _ _ _ _ _) fun _ => NM.pure _) fun c hc => vat_nm hv 1 (he.cons hc)) fun _ => fin _ _ _ _ _
 ·exact NM.ite (fin _ _ _ _ _) (NM.ite (NM.bind (NM.eqn _ _ _ _ _) fun _ => NM.bind (NM.eqn _ _ _ _ _) fun _ => fin _ _ _ _ _) (NM.ite (fin _ _ _ _ _) (NM.ite (NM.bind (NM.eqn _ _ _ _ _) fun _ => fin _ _ _ _ _) (NM.pure _))))
theorem valsM_nm (most : Int) : ∀ f : To, ∀ v ∈ valsM most f, VN v
 | .nil, v, hv => by simp [valsM] at hv
 | .cons h ps r, v, hv => by
  rcases List.mem_cons.1 hv with rfl | hv
  ·exact oneM_nm most h ps (valsM_nm most ps)
  ·exact valsM_nm most r v hv
theorem termM_nm (most : Int) (h : Nd) (ps : To) : VN (termM most h ps) := oneM_nm most h ps (valsM_nm most ps)
def Mn (M s : Nat) {α : Type} (f : Pm α) : Prop := ∀ m, m.eqs.length <= M -> m.many = true -> (f m).2.many = true /\ m.eqs.length <= (f m).2.eqs.length /\ (f m).2.eqs.length <= M /\ (f m).2.next <= m.next + s
def Be (M s : Nat) (d : Int) {α : Type} (f : Pm α) : Prop := ∀ m, m.eqs.length <= M -> m.many = false -> m.eqs.length <= (f m).2.eqs.length /\ (f m).2.eqs.length <= M /\
 (((f m).2.many = false /\ ((f m).2.next : Int) + 2 * m.eqs.length <= m.next + 2 * (f m).2.eqs.length + d) ∨ ((f m).2.many = true /\ (f m).2.next + 2 * m.eqs.length <= m.next + 2 * (f m).2.eqs.length + s + 2 * M))
section
variable {M : Nat}
theorem Mn.mono {s t : Nat} {α : Type} {f : Pm α} (h : Mn M s f) (hs : s <= t) : Mn M t f := fun m h1 h2 => by
 obtain ⟨a, b, c, d⟩ := h m h1 h2
 exact ⟨a, b, c, by omega⟩
theorem Be.mono {s t : Nat} {d e : Int} {α : Type} {f : Pm α} (h : Be M s d f) (hs : s <= t) (hd : d <= e) : Be M t e f := fun m h1 h2 => by
 obtain ⟨a, b, c⟩ := h m h1 h2
 exact ⟨a, b, c.imp (fun ⟨x, y⟩ => ⟨x, by omega⟩) (fun ⟨x, y⟩ => ⟨x, by omega⟩)⟩
theorem Mn.bind {s t : Nat} {α β : Type} {f : Pm α} {g : α -> Pm β} (h : Mn M s f) (k : ∀ a, Mn M t (g a)) : Mn M (s + t) (bd f g) := fun m h1 h2 => by
 obtain ⟨a, b, c, d⟩ := h m h1 h2
 obtain ⟨a', b', c', d'⟩ := k (f m).1 (f m).2 c a
 exact ⟨a', Nat.le_trans b b', c', by show (g _ _).2.next <= _; omega⟩
theorem Be.bind {s t : Nat} {d e : Int} {α β : Type} {f : Pm α} {g : α -> Pm β} (h : Be M s d f) (hd : d <= s) (k : ∀ a, Be M t e (g a)) (l : ∀ a, Mn M t (g a)) : Be M (s + t) (d + e) (bd f g) := fun m h1 h2 => by
 obtain ⟨a, b, c⟩ := h m h1 h2
 rcases c with ⟨c1, c2⟩ | ⟨c1, c2⟩
 ·obtain ⟨a', b', c'⟩ := k (f m).1 (f m).2 b c1
  refine ⟨Nat.le_trans a a', b', ?_⟩
  rcases c' with ⟨c3, c4⟩ | ⟨c3, c4⟩
  ·exact .inl ⟨c3, by show ((g _ _).2.next : Int) + _ <= m.next + 2 * ((g _ _).2.eqs.length : Int) + _; omega⟩
  ·exact .inr ⟨c3, by show (g _ _).2.next + _ <= m.next + 2 * (g _ _).2.eqs.length + _ + _; omega⟩
 ·obtain ⟨a', b', c', d'⟩ := l (f m).1 (f m).2 b c1
  exact ⟨Nat.le_trans a b', c', .inr ⟨a', by show (g _ _).2.next + _ <= m.next + 2 * (g _ _).2.eqs.length + _ + _; omega⟩⟩
theorem Mn.pure {α : Type} (a : α) : Mn M 0 (pu a) := fun _ h1 h2 => ⟨h2, Nat.le_refl _, h1, Nat.le_refl _⟩
theorem Be.pure {α : Type} (a : α) : Be M 0 0 (pu a) := fun m h1 h2 => ⟨Nat.le_refl _, h1, .inl ⟨h2, by show (m.next : Int) + 2 * m.eqs.length <= m.next + 2 * m.eqs.length + 0; omega⟩⟩
theorem Mn.take : Mn M 1 takeP := fun _ h1 h2 => ⟨h2, Nat.le_refl _, h1, Nat.le_refl _⟩
theorem Be.take : Be M 1 1 takeP := fun m h1 h2 => ⟨Nat.le_refl _, h1, .inl ⟨h2, by show ((m.next + 1 : Nat) : Int) + 2 * m.eqs.length <= m.next + 2 * m.eqs.length + 1; omega⟩⟩
variable {most : Int} (hm : most <= M)
include hm
theorem Mn.eqn (l r : Ty) (fr en : Int) : Mn M 0 (eqP most l r fr en) := fun m h1 h2 => by
 unfold eqP; dsimp only
 split
 ·exact ⟨rfl, Nat.le_refl _, h1, Nat.le_refl _⟩
 ·exact ⟨h2, by simp, by simp; omega, Nat.le_refl _⟩
theorem Be.eqn (l r : Ty) (fr en : Int) : Be M 0 (-2) (eqP most l r fr en) := fun m h1 h2 => by
 unfold eqP; dsimp only
 split
 ·exact ⟨Nat.le_refl _, h1, .inr ⟨rfl, by show m.next + 2 * m.eqs.length <= m.next + 2 * m.eqs.length + 0 + 2 * M; omega⟩⟩
 ·exact ⟨by simp, by simp; omega, .inl ⟨h2, by simp; omega⟩⟩
theorem fin_mn (own l r : Ty) (fr en : Int) : Mn M 0 (bd (eqP most l r fr en) fun _ => pu own) := Mn.bind (Mn.eqn hm _ _ _ _) fun _ => Mn.pure _
theorem fin_be (own l r : Ty) (fr en : Int) : Be M 0 (-2) (bd (eqP most l r fr en) fun _ => pu own) := (Be.bind (Be.eqn hm _ _ _ _) (by decide) (fun _ => Be.pure own) (fun _ => Mn.pure own)).mono (Nat.le_refl _) (by decide)
theorem keptP_be (sh : Ty -> Ty) : ∀ (l : List Eqn) (m : Mk), m.eqs.length <= M -> m.eqs.length <= (keptP most sh l m).2.eqs.length /\ (keptP most sh l m).2.eqs.length <= M /\ (keptP most sh l m).2.next = m.next /\ ((keptP most sh l m).2.many = false -> (keptP most sh l m).2.eqs.length = m.eqs.length + l.length)
 | [], m, h => ⟨Nat.le_refl _, h, rfl, fun _ => rfl⟩
 | e :: r, m, h => by
  unfold keptP ifMany
  by_cases hmm : m.many = true
  ·rw [if_pos hmm]
   exact ⟨Nat.le_refl _, h, rfl, fun c => absurd hmm (by show ¬ m.many = true; rw [show m.many = false from c]; decide)⟩
  ·rw [if_neg hmm]
   show m.eqs.length <= (keptP most sh r (eqP most (sh e.1) (sh e.2.1) e.2.2.1 e.2.2.2 m).2).2.eqs.length /\ (keptP most sh r (eqP most (sh e.1) (sh e.2.1) e.2.2.1 e.2.2.2 m).2).2.eqs.length <= M /\ (keptP most sh r (eqP most (sh e.1) (sh e.2.1) e.2.2.1 e.2.2.2 m).2).2.next = m.next /\ ((keptP most sh r (eqP most (sh e.1) (sh e.2.1) e.2.2.1 e.2.2.2 m).2).2.many = false -> (keptP most sh r (eqP most (sh e.1) (sh e.2.1) e.2.2.1 e.2.2.2 m).2).2.eqs.length = m.eqs.length + (r.length + 1))
   have hm0 : m.many = false := by simpa using hmm
   obtain ⟨a, b, c⟩ := Be.eqn hm (sh e.1) (sh e.2.1) e.2.2.1 e.2.2.2 m h hm0
   have hn := eqP_next most (sh e.1) (sh e.2.1) e.2.2.1 e.2.2.2 m
   obtain ⟨a', b', c', d'⟩ := keptP_be sh r (eqP most (sh e.1) (sh e.2.1) e.2.2.1 e.2.2.2 m).2 b
   refine ⟨Nat.le_trans a a', b', c'.trans hn, fun hf => ?_⟩
   rw [d' hf]
   have hone : (eqP most (sh e.1) (sh e.2.1) e.2.2.1 e.2.2.2 m).2.many = true ∨ (eqP most (sh e.1) (sh e.2.1) e.2.2.1 e.2.2.2 m).2.eqs.length = m.eqs.length + 1 := by
    unfold eqP; dsimp only
    split
    ·exact .inl rfl
    ·exact .inr (by simp)
   rcases hone with hx | hx
   ·have := keptP_stuck sh r _ hx
    rw [this] at hf; cases hf
   ·omega
where keptP_stuck (sh : Ty -> Ty) : ∀ (l : List Eqn) (m : Mk), m.many = true -> (keptP most sh l m).2.many = true
 | [], m, h => h
 | e :: r, m, h => by unfold keptP ifMany; rw [if_pos h]; exact h
theorem copied_be {kept : List Eqn} {v : Ty} {fr tt : Nat} (h1 : tt - fr <= 2 * kept.length) (h2 : kept.length <= M) : Be M 0 0 (copied most kept v fr tt) := fun m hl hn => by
 obtain ⟨a, b, c, d⟩ := keptP_be hm (shT fr tt (m.next - fr)) kept { m with next := m.next + (tt - fr) } hl
 have e : (copied most kept v fr tt m).2 = (keptP most (shT fr tt (m.next - fr)) kept { m with next := m.next + (tt - fr) }).2 := rfl
 rw [e]
 generalize (keptP most (shT fr tt (m.next - fr)) kept { m with next := m.next + (tt - fr) }).2 = q at *
 dsimp only at a b c d
 refine ⟨a, b, ?_⟩
 cases hq : q.many
 ·have := d hq
  exact .inl ⟨rfl, by rw [c, this]; push_cast; omega⟩
 ·exact .inr ⟨rfl, by rw [c]; omega⟩
theorem letP_be (h : Nd) {s t : Nat} {d e : Int} {f : Pm Ty} {F : Pm Ty -> Pm Ty} (hf : Be M s d f) (hd : d <= 0) (hF : ∀ c, Be M 0 0 c -> Be M t e (F c)) (hG : ∀ c, Mn M t (F c)) : Be M (s + t) (d + e) (letP most h f F) := fun m h1 h2 => by
 obtain ⟨a, b, c⟩ := hf m h1 h2
 have el : (letP most h f F m).2 = (F (copied most ((f m).2.eqs.drop m.eqs.length) (f m).1 m.next (f m).2.next) (f m).2).2 := rfl
 rw [el]
 rcases c with ⟨c1, c2⟩ | ⟨c1, c2⟩
 ·have hc := copied_be hm (kept := (f m).2.eqs.drop m.eqs.length) (v := (f m).1) (fr := m.next) (tt := (f m).2.next) (by rw [List.length_drop]; omega) (by rw [List.length_drop]; omega)
  obtain ⟨a', b', c'⟩ := hF _ hc (f m).2 b c1
  generalize (F (copied most ((f m).2.eqs.drop m.eqs.length) (f m).1 m.next (f m).2.next) (f m).2).2 = q at *
  refine ⟨Nat.le_trans a a', b', ?_⟩
  rcases c' with ⟨c3, c4⟩ | ⟨c3, c4⟩
  ·exact .inl ⟨c3, by omega⟩
  ·exact .inr ⟨c3, by omega⟩
 ·obtain ⟨a', b', c', d'⟩ := hG (copied most ((f m).2.eqs.drop m.eqs.length) (f m).1 m.next (f m).2.next) (f m).2 b c1
  exact ⟨Nat.le_trans a b', c', .inr ⟨a', by omega⟩⟩
end
theorem Be.many {M s : Nat} {d : Int} {α : Type} (x : α) {f : Pm α} (h : Be M s d f) : Be M s d (ifMany x f) := fun m h1 h2 => by
 unfold ifMany; rw [if_neg (by rw [h2]; decide)]; exact h m h1 h2
theorem Mn.many {M s : Nat} {α : Type} (x : α) (f : Pm α) : Mn M s (ifMany x f) := fun m h1 h2 => by
 unfold ifMany; rw [if_pos h2]; exact ⟨h2, Nat.le_refl _, h1, Nat.le_add_right _ _⟩
theorem Be.ite {M s : Nat} {d : Int} {α : Type} {c : Prop} [Decidable c] {f g : Pm α} (h1 : c -> Be M s d f) (h2 : ¬ c -> Be M s d g) : Be M s d (if c then f else g) := by
 by_cases hc : c
 ·rw [if_pos hc]; exact h1 hc
 ·rw [if_neg hc]; exact h2 hc
theorem Mn.ite {M s : Nat} {α : Type} {c : Prop} [Decidable c] {f g : Pm α} (h1 : Mn M s f) (h2 : Mn M s g) : Mn M s (if c then f else g) := by
 by_cases hc : c
 ·rw [if_pos hc]; exact h1
 ·rw [if_neg hc]; exact h2
def BE (M : Nat) (e : Env) : Prop := ∀ x ∈ e, Be M 0 0 x.2
theorem BE.cons {M : Nat} {e : Env} (h : BE M e) {s : ByteArray} {f : Pm Ty} (hf : Be M 0 0 f) : BE M ((s, f) :: e) := fun x hx => by
 rcases List.mem_cons.1 hx with rfl | hx
 ·exact hf
 ·exact h x hx
theorem lookE_be {M : Nat} : ∀ (e : Env) (s : ByteArray), BE M e -> Be M 0 0 (lookE e s)
 | [], s, _ => Be.pure _
 | x :: r, s, h => by
  unfold lookE
  exact Be.ite (fun _ => h x (by simp)) (fun _ => lookE_be r s (fun y hy => h y (by simp [hy])))
structure VBe (M s : Nat) (v : Env -> Pm Ty) : Prop where
 be : ∀ e, BE M e -> Be M s 0 (v e)
 mn : ∀ e, Mn M s (v e)
inductive VsBe (M : Nat) : List (Env -> Pm Ty) -> List Nat -> Prop
 | nil : VsBe M [] []
 | cons {s : Nat} {v : Env -> Pm Ty} {l : List (Env -> Pm Ty)} {k : List Nat} : VBe M s v -> VsBe M l k -> VsBe M (v :: l) (s :: k)
theorem VsBe.at {M : Nat} {l : List (Env -> Pm Ty)} {k : List Nat} (h : VsBe M l k) : ∀ (i : Nat), VBe M (k.getD i 0) (vat l i) := by
 induction h with
 | nil => intro i; exact ⟨fun e _ => Be.pure _, fun e => Mn.pure _⟩
 | cons h1 _ ih =>
  intro i
  cases i with
  | zero => exact h1
  | succ i => exact ih i
theorem VsBe.map {M : Nat} {e : Env} {l : List (Env -> Pm Ty)} {k : List Nat} (h : VsBe M l k) : Mn M k.sum (mapE e l) /\ (BE M e -> Be M k.sum 0 (mapE e l)) := by
 induction h with
 | nil => exact ⟨Mn.pure _, fun _ => Be.pure _⟩
 | @cons s v l k h1 _ ih =>
  refine ⟨by rw [List.sum_cons]; exact Mn.bind (h1.mn e) fun t => (Mn.bind ih.1 fun l => Mn.pure _).mono (Nat.le_refl _), fun he => ?_⟩
  rw [List.sum_cons]
  exact (Be.bind (h1.be e he) (by omega) (fun t => Be.bind (ih.2 he) (by omega) (fun l => Be.pure _) (fun l => Mn.pure _)) (fun t => Mn.bind ih.1 fun l => Mn.pure _)).mono (by simp) (by decide)
theorem sum0 : ∀ k : List Nat, k.getD 0 0 <= k.sum
 | [] => Nat.le_refl _
 | a :: r => by simp
theorem sum01 : ∀ k : List Nat, k.getD 0 0 + k.getD 1 0 <= k.sum
 | [] => Nat.le_refl _
 | [a] => by simp
 | a :: b :: r => by simp
theorem oneM_be {M : Nat} {most : Int} (hm : most <= M) (h : Nd) (ps : To) (hk : 1 <= h.k /\ h.k <= 10) {vs : List (Env -> Pm Ty)} {k : List Nat} (hv : VsBe M vs k) : VBe M (2 + k.sum) (oneM most h ps vs) := by
 refine ⟨fun e he => ?_, fun e => (Mn.bind (t := 1 + k.sum) Mn.take fun own => Mn.many own _).mono (by omega)⟩
 have q0 := sum0 k
 have q01 := sum01 k
 have fin := fin_be hm
 have fim := fin_mn hm
 unfold oneM
 refine (Be.bind (t := 1 + k.sum) (e := -1) Be.take (by decide) (fun own => Be.many own ?_) (fun own => Mn.many own _)).mono (by omega) (by decide)
 refine Be.ite (fun _ => (fin _ _ _ _ _).mono (by omega) (by decide)) fun _ => Be.ite (fun _ => (fin _ _ _ _ _).mono (by omega) (by decide)) fun _ => Be.ite (fun _ => ?_) fun n1 => Be.ite (fun _ => ?_) fun n4 => Be.ite (fun _ => ?_) fun n6 => Be.ite (fun _ => ?_) fun n7 => ?_
 ·exact (Be.bind (lookE_be e _ he) (by decide) (fun t => fin _ _ _ _ _) (fun t => fim _ _ _ _ _)).mono (by omega) (by decide)
 ·exact (Be.bind Be.take (by decide) (fun b => Be.bind ((hv.at 0).be _ (he.cons (Be.pure b))) (by omega) (fun t => fin _ _ _ _ _) (fun t => fim _ _ _ _ _)) (fun b => Mn.bind ((hv.at 0).mn _) fun t => fim _ _ _ _ _)).mono (by omega) (by decide)
 ·exact (Be.bind (letP_be hm h ((hv.at 0).be e he) (by decide) (fun c hc => (hv.at 1).be _ (he.cons hc)) (fun c => (hv.at 1).mn _)) (by omega) (fun t => fin _ _ _ _ _) (fun t => fim _ _ _ _ _)).mono (by omega) (by decide)
 ·refine (Be.bind (letP_be hm h (s := 1 + k.getD 0 0) (d := -1) ?_ (by decide) (fun c hc => (hv.at 1).be _ (he.cons hc)) (fun c => (hv.at 1).mn _)) (by omega) (fun t => fin _ _ _ _ _) (fun t => fim _ _ _ _ _)).mono (by omega) (by decide)
  exact (Be.bind Be.take (by decide) (fun v => Be.bind ((hv.at 0).be _ (he.cons (Be.pure v))) (by omega) (fun t => fin _ _ _ _ _) (fun t => fim _ _ _ _ _)) (fun v => Mn.bind ((hv.at 0).mn _) fun t => fim _ _ _ _ _)).mono (by omega) (by decide)
 refine (Be.bind (t := 0) (e := -2) (hv.map.2 he) (by omega) (fun p => ?_) (fun p => ?_)).mono (by omega) (by decide)
 ·refine Be.ite (fun _ => fin _ _ _ _ _) fun n5 => Be.ite (fun _ => ?_) fun n8 => Be.ite (fun _ => fin _ _ _ _ _) fun n9 => Be.ite (fun _ => ?_) fun n10 => ?_
  ·exact (Be.bind (Be.eqn hm _ _ _ _) (by decide) (fun _ => Be.bind (Be.eqn hm _ _ _ _) (by decide) (fun _ => fin _ _ _ _ _) (fun _ => fim _ _ _ _ _)) (fun _ => Mn.bind (Mn.eqn hm _ _ _ _) fun _ => fim _ _ _ _ _)).mono (by omega) (by decide)
  ·exact (Be.bind (Be.eqn hm _ _ _ _) (by decide) (fun _ => fin _ _ _ _ _) (fun _ => fim _ _ _ _ _)).mono (by omega) (by decide)
  ·omega
 ·exact Mn.ite (fim _ _ _ _ _) (Mn.ite (Mn.bind (Mn.eqn hm _ _ _ _) fun _ => Mn.bind (Mn.eqn hm _ _ _ _) fun _ => fim _ _ _ _ _) (Mn.ite (fim _ _ _ _ _) (Mn.ite (Mn.bind (Mn.eqn hm _ _ _ _) fun _ => fim _ _ _ _ _) (Mn.pure _))))
def valsS : To -> List Nat
 | .nil => []
 | .cons _ ps r => (2 + (valsS ps).sum) :: valsS r
theorem valsS_sum : ∀ f : To, (valsS f).sum = 2 * f.size
 | .nil => rfl
 | .cons _ ps r => by
  show ((2 + (valsS ps).sum) :: valsS r).sum = 2 * (To.cons _ ps r).size
  rw [List.sum_cons, valsS_sum ps, valsS_sum r]
  simp only [To.size]; omega
theorem valsM_be {M : Nat} {most : Int} (hm : most <= M) : ∀ f : To, okK f -> VsBe M (valsM most f) (valsS f)
 | .nil, _ => .nil
 | .cons h ps r, ⟨a, b, c⟩ => .cons (oneM_be hm h ps ⟨a.1, a.2.1⟩ (valsM_be hm ps b)) (valsM_be hm r c)
theorem run_next {M : Nat} {most : Int} (hm : most <= M) (h : Nd) (ps : To) (hk : okK (.cons h ps .nil)) : (termM most h ps [] ⟨[], 0, false⟩).2.next <= 4 * M + 2 * ps.size + 2 := by
 have h1 := (oneM_be hm h ps ⟨hk.1.1, hk.1.2.1⟩ (valsM_be hm ps hk.2.1)).be [] (fun x hx => by cases hx) ⟨[], 0, false⟩ (Nat.zero_le _) rfl
 rw [valsS_sum] at h1
 show (oneM most h ps (valsM most ps) [] ⟨[], 0, false⟩).2.next <= _
 generalize (oneM most h ps (valsM most ps) [] ⟨[], 0, false⟩).2 = q at *
 obtain ⟨_, b, c⟩ := h1
 simp only [List.length_nil] at c
 rcases c with ⟨_, c⟩ | ⟨_, c⟩ <;> omega
end Em
end
end Go.Proofs.YtcninopmelmajaaGreatDoor
