/-
  term.Apply. Conditions: the terms lie in memory as told; there are few parts of them.
-/
import Derived.Test.YtggidhgifaekbaaDoorTeCopy
import Derived.Deep.RegionHeld3
import Derived.Deep.RegionWith
namespace Go.Proofs.YtggidhgifaekbaaDoor
open Go.RowKit Go.Shelf

abbrev appNd : Nd := ⟨5, ⟨#[]⟩, 0, 0, 0, .nil, 0, 0⟩
abbrev zeroNd : Nd := ⟨0, ⟨#[]⟩, 0, 0, 0, .nil, 0, 0⟩
/-- a term, applied to others one by one -/
def foldA : Nd → To → To → Nd × To
  | h, ps, .nil => (h, ps)
  | h, ps, .cons h2 ps2 r => foldA appNd (.cons h ps (.cons h2 ps2 .nil)) r
def appAll : To → Nd × To
  | .nil => (zeroNd, .nil)
  | .cons h ps r => foldA h ps r
abbrev cells18 (g : Nd) (a1 : Option Addr) (n1 k1 : Nat) (a2 : Option Addr) (n2 k2 : Nat) (hd : Nd) (u1 : Option Addr) (v1 t1 : Nat) (u2 : Option Addr) (v2 t2 : Nat) : Array Value :=
  #[.int .i64 g.k, .string g.nm, .int .i64 g.n, .int .i64 g.tk, .int .i64 g.tn, .slice a1 n1 k1, .slice a2 n2 k2, .int .i64 g.fr, .int .i64 g.en, .int .i64 hd.k, .string hd.nm, .int .i64 hd.n, .int .i64 hd.tk, .int .i64 hd.tn, .slice u1 v1 t1, .slice u2 v2 t2, .int .i64 hd.fr, .int .i64 hd.en]
set_option maxHeartbeats 2000000 in
theorem slc9two {R : Nat → Prop} {W : World} {b : Nat} {g hd : Nd} {a1 : Option Addr} {n1 k1 : Nat} {a2 : Option Addr} {n2 k2 : Nat} {u1 : Option Addr} {v1 t1 : Nat} {u2 : Option Addr} {v2 t2 : Nat} {gs qs : To}
    (hb : W.heap[b]? = some (.cells (cells18 g a1 n1 k1 a2 n2 k2 hd u1 v1 t1 u2 v2 t2) 35 (0, 0))) (hR : R b)
    (h1 : SlcIn R W a1 n1 g.tp) (h2 : TSlc R W a2 n2 gs) (h3 : SlcIn R W u1 v1 hd.tp) (h4 : TSlc R W u2 v2 qs) : TSlc R W (some ⟨b, 0, none⟩) 2 (.cons g gs (.cons hd qs .nil)) := by
  refine ⟨rfl, by decide, fun _ => ⟨b, 0, rfl, hR, ⟨a1, n1, k1, a2, n2, k2, ⟨?_, ?_, ?_, ?_, ?_, ?_, ?_, ?_, ?_⟩, h1, h2.1, h2.2.1, h2.2.2⟩,
    hR, ⟨u1, v1, t1, u2, v2, t2, ⟨?_, ?_, ?_, ?_, ?_, ?_, ?_, ?_, ?_⟩, h3, h4.1, h4.2.1, h4.2.2⟩, trivial⟩⟩
  all_goals (rw [cell_of_row _ _ _ _ _ (0, 0) hb]; rfl)
/-- what Apply gives back -/
def ApPost (w : World) (fin : Nd × To) (e : Ending) (w' : World) : Prop := ∃ p1 m1 d1 p2 m2 d2, e = .returned (tmv fin.1 p1 m1 d1 p2 m2 d2) ∧ SlcIn (fun b => w.heap.size ≤ b) w' p1 m1 fin.1.tp ∧ TSlc (fun b => w.heap.size ≤ b) w' p2 m2 fin.2 ∧ Quiet0 w w'
def ApplyPost (w : World) (f : To) (e : Ending) (w' : World) : Prop := ApPost w (appAll f) e w'
set_option maxHeartbeats 2000000 in
theorem apply_nil (w : World) (o : Option Addr) (cap : Nat) : Calls Tryd.prog 24 #[.slice o 0 cap] w (ApplyPost w .nil) := by
  have HB1 := Lib.hid (heap_alloc_new w (.cells zero9 35))
  obtain ⟨⟨x0, x1, x2, x3, x4, x5, x6, x7, x8⟩, y0, y1, y2, y3, y4, y5, y6, y7, y8⟩ := block9 HB1.out
  go_enter Tryd.func24, Tryd.ntmps24
  go_wp2_with fail
  refine bodyPost_ret (by simp [results, Tryd.results24, go_sem, x0, x1, x2, x3, x4, x5, x6, x7, x8]; rfl) rfl ?_
  exact ⟨none, 0, 0, none, 0, 0, rfl, SlcIn.nil _ _ _, TSlc.nil _ _ _, Quiet0.alloc _ _⟩
theorem foldA_cons (h h2 : Nd) (ps ps2 r : To) : foldA h ps (.cons h2 ps2 r) = foldA appNd (.cons h ps (.cons h2 ps2 .nil)) r := rfl
/-- Apply's loop is at its head: what was put together lies in the box -/
structure ApRel (B1 B3 : Nat) (W2 wr : World) (g : Nd) (gs : To) : Prop where
  box : ∃ p1 m1 d1 p2 m2 d2, wr.heap[B3]? = some (.cells (cells9 g p1 m1 d1 p2 m2 d2) 35 (0, 0)) ∧ SlcIn (fun k => B1 < k ∧ k ≠ B3) wr p1 m1 g.tp ∧ TSlc (fun k => B1 < k ∧ k ≠ B3) wr p2 m2 gs
  fr : Fr (fun k => k = B3) W2 wr
theorem put9_size (w : World) (B : Nat) (a0 a1 a2 a3 a4 a5 a6 a7 a8 : Value) : (put9 w B a0 a1 a2 a3 a4 a5 a6 a7 a8).heap.size = w.heap.size := by
  unfold put9; simp [World.setCell]
theorem ap_next {B1 B3 : Nat} {W2 wr W5 wx : World} {g hd : Nd} {gs qs : To} {p1 : Option Addr} {m1 d1 : Nat} {p2 : Option Addr} {m2 d2 : Nat} {q5 : Option Addr} {v1 e5 : Nat} {q6 : Option Addr} {v2 e6 : Nat}
    (HFR : Fr (fun k => k = B3) W2 wr) (HQ5 : Quiet0 wr W5) (hqc : Quiet0 W5 wx) (hB3 : W5.heap[B3]? = some (.cells (cells9 g p1 m1 d1 p2 m2 d2) 35 (0, 0))) (h1 : B1 < B3)
    (hp1 : SlcIn (fun k => B1 < k ∧ k ≠ B3) W5 p1 m1 g.tp) (hp2 : TSlc (fun k => B1 < k ∧ k ≠ B3) W5 p2 m2 gs) (hk5 : SlcIn (fun b => W5.heap.size ≤ b) wx q5 v1 hd.tp) (hk6 : TSlc (fun b => W5.heap.size ≤ b) wx q6 v2 qs) :
    ApRel B1 B3 W2 ((put9 wx B3 (.int .i64 5) (.string ⟨#[]⟩) (.int .i64 0) (.int .i64 0) (.int .i64 0) (.slice none 0 0) (.slice (some ⟨wx.heap.size, 0, none⟩) 2 2) (.int .i64 0) (.int .i64 0)).alloc (.cells (cells18 g p1 m1 d1 p2 m2 d2 hd q5 v1 e5 q6 v2 e6) 35)) appNd (.cons g gs (.cons hd qs .nil)) := by
  have hb3x := blk_after hqc hB3
  have hput := put9_fr wx B3 (.int .i64 5) (.string ⟨#[]⟩) (.int .i64 0) (.int .i64 0) (.int .i64 0) (.slice none 0 0) (.slice (some ⟨wx.heap.size, 0, none⟩) 2 2) (.int .i64 0) (.int .i64 0)
  have hbl := put9_block (a0 := .int .i64 5) (a1 := .string ⟨#[]⟩) (a2 := .int .i64 0) (a3 := .int .i64 0) (a4 := .int .i64 0) (a5 := .slice none 0 0) (a6 := .slice (some ⟨wx.heap.size, 0, none⟩) 2 2) (a7 := .int .i64 0) (a8 := .int .i64 0) hb3x
  have hsz := put9_size wx B3 (.int .i64 5) (.string ⟨#[]⟩) (.int .i64 0) (.int .i64 0) (.int .i64 0) (.slice none 0 0) (.slice (some ⟨wx.heap.size, 0, none⟩) 2 2) (.int .i64 0) (.int .i64 0)
  generalize (put9 wx B3 (.int .i64 5) (.string ⟨#[]⟩) (.int .i64 0) (.int .i64 0) (.int .i64 0) (.slice none 0 0) (.slice (some ⟨wx.heap.size, 0, none⟩) 2 2) (.int .i64 0) (.int .i64 0)) = wp at *
  have hnew := heap_alloc_new wp (.cells (cells18 g p1 m1 d1 p2 m2 d2 hd q5 v1 e5 q6 v2 e6) 35)
  rw [hsz] at hnew
  have hl3 := lt_of_block hb3x
  have hs5 : B3 < W5.heap.size := lt_of_block hB3
  have ha := Quiet0.alloc wp (.cells (cells18 g p1 m1 d1 p2 m2 d2 hd q5 v1 e5 q6 v2 e6) 35)
  refine ⟨⟨none, 0, 0, some ⟨wx.heap.size, 0, none⟩, 2, 2, ?_, SlcIn.nil _ _ _, ?_⟩, ?_⟩
  · rw [Below.heap_alloc _ _ _ (by rw [hsz]; exact hl3)]; exact hbl
  · refine slc9two hnew ⟨by omega, by omega⟩ ?_ ?_ ?_ ?_
    · exact ((hp1.stay hqc).fr hput (fun k _ h => ⟨h, fun e => h.2 e⟩)).stay ha
    · exact ((hp2.stay hqc).fr hput (fun k _ h => ⟨h, fun e => h.2 e⟩)).stay ha
    · exact (hk5.fr (T := fun k => B1 < k ∧ k ≠ B3) hput (fun k _ h => by have h' : W5.heap.size ≤ k := h; exact ⟨⟨by omega, by omega⟩, fun e => by have e' : k = B3 := e; omega⟩)).stay ha
    · exact (hk6.fr (T := fun k => B1 < k ∧ k ≠ B3) hput (fun k _ h => by have h' : W5.heap.size ≤ k := h; exact ⟨⟨by omega, by omega⟩, fun e => by have e' : k = B3 := e; omega⟩)).stay ha
  · exact (((HFR.trans HQ5.fr).trans hqc.fr).trans hput).trans ha.fr
set_option maxRecDepth 100000 in
set_option maxHeartbeats 8000000 in
theorem apply_more (h : Nd) (ps r : To) (w : World) (R : Nat → Prop) (o : Option Addr) (len cap : Nat) (hs : TSlc R w o len (.cons h ps r)) (hcap : len ≤ cap) (hat : allT (fun h => h.tp.size ≤ 1000000) (.cons h ps r)) (hz : (To.cons h ps r).size ≤ 1000000) :
    Calls Tryd.prog 24 #[.slice o len cap] w (ApplyPost w (.cons h ps r)) := by
  have hl : len = r.length + 1 := hs.1
  have hmx := hs.2.1
  unfold maxLen at hmx
  obtain ⟨b, off, h', ps', o1, l1, c1, o2, l2, c2, rfl, hdr, hg, hRb, hc9, hsl, hts⟩ := hs.nth (i := 0) (by omega)
  simp only [To.get] at hg
  cases hg
  rw [Nat.zero_mul, Nat.add_zero] at hc9
  have hblt := hc9.lt
  have hss : TSlc R w (some ⟨b, off + 9, none⟩) (len - 1) r := by
    refine ⟨by omega, by unfold maxLen; omega, fun _ => ⟨b, off + 9, rfl, ?_⟩⟩
    obtain ⟨b', off', he, ha⟩ := hs.2.2 (by omega)
    cases he
    exact ha.2.2
  obtain ⟨n, hn⟩ : ∃ n, len - 1 = n := ⟨_, rfl⟩
  rw [hn] at hss
  obtain ⟨W0, hW0⟩ : ∃ W0, W0 = w.alloc (.cells zero9 35) := ⟨_, rfl⟩
  have hq0 : Quiet0 w W0 := by rw [hW0]; exact Quiet0.alloc _ _
  have HB1 : Hid (W0.heap[w.heap.size]? = some (.cells zero9 35 (0, 0))) := by rw [hW0]; exact heap_alloc_new w _
  have HZ0 : Hid (W0.heap.size = w.heap.size + 1) := by show _ = _; rw [hW0]; simp
  have hsz1 : ps.size ≤ 1000000 := by simp only [To.size] at hz; omega
  have HC := Lib.hid (copyT_any h ps W0 R o1 l1 c1 o2 l2 c2 (hsl.stay hq0) (hts.stay hq0) hat.1 hat.2.1 hsz1)
  obtain ⟨f0, f1, f2, f3, f4, f5, f6, f7, f8⟩ := hc9.fr hq0 (fun h => h)
  have HSQ := Lib.hid hss
  have HA := Lib.hid hat.2.2
  have hrz : r.size ≤ 1000000 := by simp only [To.size] at hz; omega
  have HQ0 := Lib.hid hq0
  have HRL : Hid (n = r.length) := by show _ = _; omega
  have HLN : Hid (len = n + 1) := by show _ = _; omega
  have hnb : n ≤ 1000000 := by have := To.length_le r; omega
  have j0 : (0 : Int) < (len : Int) := by omega
  have jn : 0 < len := by omega
  have j1 : (1 : Int) ≤ (len : Int) := by omega
  have j2 : (len : Int) ≤ (cap : Int) := by omega
  have j3 : ((len : Int) == 0) = false := by simp; omega
  have j4 : (1 : Int) ≤ (cap : Int) := by omega
  obtain ⟨fin, hfin⟩ : ∃ fin, foldA h ps r = fin := ⟨_, rfl⟩
  have HFIN := Lib.hid hfin
  have HF : Hid (appAll (.cons h ps r) = fin) := hfin
  show Calls _ _ _ _ (ApPost w (appAll (.cons h ps r)))
  rw [HF.out]
  have HBW : Hid (b < w.heap.size) := hblt
  clear hs hdr hsl hts hss hat hz hc9 hblt HF hfin hl hq0 hmx hcap
  unfold tmv at HC
  go_enter Tryd.func24, Tryd.ntmps24
  go_upto_region 1 with fail
  change Code.wp _ _ _ _ (w.alloc (.cells zero9 35))
  rw [← hW0]
  clear hW0
  generalize hB1 : w.heap.size = B1 at *
  have HBE := Lib.hid hB1
  clear hB1
  go_wp2_with fail
  refine HC.out.mono ?_; rintro e w1 ⟨q1, e1, q2, e2, rfl, hk1, hk2, hq1⟩
  have HK1 := Lib.hid hk1
  have HK2 := Lib.hid hk2
  have HQ1 := Lib.hid hq1
  obtain ⟨W2, hW2⟩ : ∃ W2, W2 = w1.alloc (.cells (cells9 h q1 l1 e1 q2 l2 e2) 35) := ⟨_, rfl⟩
  clear hk1 hk2 hq1 HC f0 f1 f2 f3 f4 f5 f6 f7 f8
  go_upto_region 4 with fail
  change Code.wp _ _ _ _ (w1.alloc (.cells (cells9 h q1 l1 e1 q2 l2 e2) 35))
  have HQ2 : Hid (Quiet0 w1 W2) := by rw [hW2]; exact Quiet0.alloc _ _
  have hb3 : W2.heap[w1.heap.size]? = some (.cells (cells9 h q1 l1 e1 q2 l2 e2) 35 (0, 0)) := by rw [hW2]; exact heap_alloc_new w1 _
  have HZ2 : Hid (W2.heap.size = w1.heap.size + 1) := by show _ = _; rw [hW2]; simp
  have HB13 : Hid (B1 < w1.heap.size) := by have := HQ1.out.size; have := HZ0.out; show _ < _; omega
  rw [← hW2]
  clear hW2
  have HB1W : Hid (W2.heap[B1]? = some (.cells zero9 35 (0, 0))) := by
    show _ = _
    rw [HQ2.out.block B1 HB13.out (fun h => h), HQ1.out.block B1 (by have := HZ0.out; omega) (fun h => h)]; exact HB1.out
  have HW01 := Lib.hid HQ1.out.size
  generalize hB3 : w1.heap.size = B3 at *
  have HB3E := Lib.hid hB3
  have HAP : Hid (ApRel B1 B3 W2 W2 h ps) := by
    refine ⟨⟨q1, l1, e1, q2, l2, e2, hb3, ?_, ?_⟩, Fr.refl _ _⟩
    · exact HK1.out.fr HQ2.out (fun k hk h => ⟨⟨by have h' : W0.heap.size ≤ k := h; have := HZ0.out; omega, by omega⟩, fun h => h⟩)
    · exact HK2.out.fr HQ2.out (fun k hk h => ⟨⟨by have h' : W0.heap.size ≤ k := h; have := HZ0.out; omega, by omega⟩, fun h => h⟩)
  have HQW : Hid (∀ W, Fr (fun k => k = B3) W2 W → Quiet0 w W) := by
    intro W hf
    exact Fr.trans' ((HQ0.out.trans HQ1.out).trans HQ2.out) hf (fun k hk e => by have := HBE.out; have := HB13.out; omega)
  have HSW : Hid (∀ W, Fr (fun k => k = B3) W2 W → TSlc (fun k => R k ∧ k < B1) W (some ⟨b, off + 9, none⟩) n r) := by
    intro W hf
    refine TSlc.fr (R := R) HSQ.out (HQW.out W hf) (fun k hk h => ⟨⟨h, by have := HBE.out; omega⟩, fun h => h⟩)
  clear hb3 hB3
  by_cases hc1 : cap = 1
  · have HN0 : Hid (n = 0) := by have := HLN.out; show _ = _; omega
    have hln1 : len - 1 = n := by have := HLN.out; omega
    subst hc1
    go_wp2_with fail
    clear hln1
    go_loopw [17] (fun t wr => ∃ (i : Nat) (g : Nd) (gs : To), t = .int .i64 i ∧ i ≤ n ∧ foldA g gs (r.drop i) = fin ∧ ApRel B1 B3 W2 wr g gs) (fun t _ => n - (intOf t).toNat)
    case atStart => exact ⟨0, h, ps, rfl, Nat.zero_le _, by rw [To.drop_zero]; exact HFIN.out, HAP.out⟩
    case round =>
      obtain ⟨i, g, gs, rfl, hi, hfo, hap⟩ := hrel
      have hi0 : ¬ (i : Int) < n := by have := HN0.out; omega
      have hfin : (g, gs) = fin := by
        rw [To.drop_end r i (by have := HRL.out; omega)] at hfo; exact hfo
      have HFI := Lib.hid hfin
      obtain ⟨⟨p1, m1, d1, p2, m2, d2, hbx, hp1, hp2⟩, hfr⟩ := hap
      have hb1 := (hfr.block B1 (by have := HZ2.out; have := HB13.out; omega) (by have := HB13.out; show ¬ B1 = B3; omega)).trans HB1W.out
      obtain ⟨⟨x0, x1, x2, x3, x4, x5, x6, x7, x8⟩, y0, y1, y2, y3, y4, y5, y6, y7, y8⟩ := block9 hbx
      obtain ⟨⟨z0, z1, z2, z3, z4, z5, z6, z7, z8⟩, t0, t1, t2, t3, t4, t5, t6, t7, t8⟩ := block9 hb1
      have HB1R := Lib.hid hb1
      have HP1 := Lib.hid hp1
      have HP2 := Lib.hid hp2
      have HFR := Lib.hid hfr
      clear hfin hfo hbx hp1 hp2 hfr hb1
      go_wp2_with fail
      change bodyPost _ _ _ _ _ (put9 wr B1 (.int .i64 g.k) (.string g.nm) (.int .i64 g.n) (.int .i64 g.tk) (.int .i64 g.tn) (.slice p1 m1 d1) (.slice p2 m2 d2) (.int .i64 g.fr) (.int .i64 g.en))
      have hff := put9_fr wr B1 (.int .i64 g.k) (.string g.nm) (.int .i64 g.n) (.int .i64 g.tk) (.int .i64 g.tn) (.slice p1 m1 d1) (.slice p2 m2 d2) (.int .i64 g.fr) (.int .i64 g.en)
      have hbf := put9_block (a0 := .int .i64 g.k) (a1 := .string g.nm) (a2 := .int .i64 g.n) (a3 := .int .i64 g.tk) (a4 := .int .i64 g.tn) (a5 := .slice p1 m1 d1) (a6 := .slice p2 m2 d2) (a7 := .int .i64 g.fr) (a8 := .int .i64 g.en) HB1R.out
      clear x0 x1 x2 x3 x4 x5 x6 x7 x8 y0 y1 y2 y3 y4 y5 y6 y7 y8 z0 z1 z2 z3 z4 z5 z6 z7 z8 t0 t1 t2 t3 t4 t5 t6 t7 t8
      generalize (put9 wr B1 (.int .i64 g.k) (.string g.nm) (.int .i64 g.n) (.int .i64 g.tk) (.int .i64 g.tn) (.slice p1 m1 d1) (.slice p2 m2 d2) (.int .i64 g.fr) (.int .i64 g.en)) = wf at *
      obtain ⟨⟨x0, x1, x2, x3, x4, x5, x6, x7, x8⟩, _⟩ := block9 hbf
      refine bodyPost_ret (by simp [results, Tryd.results24, go_sem, x0, x1, x2, x3, x4, x5, x6, x7, x8]; rfl) rfl ?_
      rw [← HFI.out]
      refine ⟨p1, m1, d1, p2, m2, d2, rfl, HP1.out.fr hff (fun k _ hk => ⟨by have := hk.1; have := HBE.out; omega, fun e => by have := hk.1; omega⟩), HP2.out.fr hff (fun k _ hk => ⟨by have := hk.1; have := HBE.out; omega, fun e => by have := hk.1; omega⟩), ?_⟩
      exact Fr.trans' (HQW.out _ HFR.out) hff (fun k hk e => by have := HBE.out; omega)
  · have hc1' : ¬ cap = 1 := hc1
    have hln1 : len - 1 = n := by have := HLN.out; omega
    go_wp2_with fail
    clear hln1
    go_loopw [17] (fun t wr => ∃ (i : Nat) (g : Nd) (gs : To), t = .int .i64 i ∧ i ≤ n ∧ foldA g gs (r.drop i) = fin ∧ ApRel B1 B3 W2 wr g gs) (fun t _ => n - (intOf t).toNat)
    case atStart => exact ⟨0, h, ps, rfl, Nat.zero_le _, by rw [To.drop_zero]; exact HFIN.out, HAP.out⟩
    case round =>
      obtain ⟨i, g, gs, rfl, hi, hfo, hap⟩ := hrel
      by_cases hlt : i < n
      · have hlt' : (i : Int) < n := by omega
        obtain ⟨⟨p1, m1, d1, p2, m2, d2, hbx, hp1, hp2⟩, hfr⟩ := hap
        obtain ⟨b5, off5, hd, qs, u1, v1, t1, u2, v2, t2, he5, hdr5, hg5, hR5, hc5, hsl5, hts5⟩ := (HSW.out wr hfr).nth hlt
        cases he5
        have hat5 := allT_get r i hd qs HA.out hg5
        have hsz5 := To.size_get r i hd qs hg5
        have HFO : Hid (foldA appNd (.cons g gs (.cons hd qs .nil)) (r.drop (i + 1)) = fin) := by
          show _ = _
          rw [← foldA_cons, ← hdr5]; exact hfo
        obtain ⟨W5, hW5⟩ : ∃ W5, W5 = wr.alloc (.cells (cells9 hd u1 v1 t1 u2 v2 t2) 35) := ⟨_, rfl⟩
        have hq5 : Quiet0 wr W5 := by rw [hW5]; exact Quiet0.alloc _ _
        have HB5 : Hid (W5.heap[wr.heap.size]? = some (.cells (cells9 hd u1 v1 t1 u2 v2 t2) 35 (0, 0))) := by rw [hW5]; exact heap_alloc_new wr _
        have HCC := Lib.hid (fun (W : World) (hq : Quiet0 W5 W) => copyT_any hd qs W (fun k => R k ∧ k < B1) u1 v1 t1 u2 v2 t2 (hsl5.stay (hq5.trans hq)) (hts5.stay (hq5.trans hq)) hat5.1 hat5.2 (by omega))
        obtain ⟨f0, f1, f2, f3, f4, f5, f6, f7, f8⟩ := hc5
        have HB3W := Lib.hid (blk_after hq5 hbx)
        have HP1 := Lib.hid (hp1.stay hq5)
        have HP2 := Lib.hid (hp2.stay hq5)
        have HFR := Lib.hid hfr
        have HQ5 := Lib.hid hq5
        have HB3L : Hid (B3 < wr.heap.size) := lt_of_block hbx
        have HW5Z : Hid (W5.heap.size = wr.heap.size + 1) := by show _ = _; rw [hW5]; simp
        unfold tmv at HCC
        clear hfo hbx hp1 hp2 hfr hdr5 hg5 hsl5 hts5 hat5 hsz5 hq5
        go_upto_region 7 with fail
        change Code.wp _ _ _ _ (wr.alloc (.cells (cells9 hd u1 v1 t1 u2 v2 t2) 35))
        rw [← hW5]
        clear hW5 f0 f1 f2 f3 f4 f5 f6 f7 f8
        generalize hB5 : wr.heap.size = B5 at *
        clear hB5
        have HSS : Hid (∀ W, Fr (fun k => k ≠ B5) W5 W → W.cell? ⟨B5, 0, none⟩ = some (.int .i64 hd.k) ∧ W.cell? ⟨B5, 1, none⟩ = some (.string hd.nm) ∧ W.cell? ⟨B5, 2, none⟩ = some (.int .i64 hd.n) ∧ W.cell? ⟨B5, 3, none⟩ = some (.int .i64 hd.tk) ∧ W.cell? ⟨B5, 4, none⟩ = some (.int .i64 hd.tn) ∧ W.cell? ⟨B5, 5, none⟩ = some (.slice u1 v1 t1) ∧ W.cell? ⟨B5, 6, none⟩ = some (.slice u2 v2 t2) ∧ W.cell? ⟨B5, 7, none⟩ = some (.int .i64 hd.fr) ∧ W.cell? ⟨B5, 8, none⟩ = some (.int .i64 hd.en)) :=
          fun W hq => (block9 (blk_fr hq (fun h => h rfl) HB5.out)).1
        have hB35 : ¬ B3 = B5 := by have := HB3L.out; omega
        obtain ⟨⟨a0, a1, a2, a3, a4, a5, a6, a7, a8⟩, y0, y1, y2, y3, y4, y5, y6, y7, y8⟩ := block9 HB3W.out
        obtain ⟨g0, g1, g2, g3, g4, g5, g6, g7, g8⟩ := HSS.out W5 (Fr.refl _ _)
        have hqc := Quiet0.refl W5
        go_region_with
          (first
            | (go_at_call 34; (with_reducible refine Calls.mono (HCC.out _ ?hq) ?_); (case hq => (repeat (first | with_reducible exact hqc | with_reducible exact Quiet0.refl _ | with_reducible refine Quiet0.trans ?_ (Quiet0.alloc _ _) | with_reducible refine Quiet0.trans ?_ (Quiet0.drew _) | fail))); skip; rintro e wx ⟨q5, e5, q6, e6, rfl, hk5, hk6, hqx⟩; ((first | (have hb3x := blk_after hqx HB3W.out) | (have hb3x := blk_after hqx (blk_drew HB3W.out)) | (have hb3x := blk_after hqx (blk_drew (blk_drew HB3W.out)))); obtain ⟨⟨m0, m1', m2', m3, m4, m5, m6, m7, m8⟩, z0, z1, z2, z3, z4, z5, z6, z7, z8⟩ := block9 hb3x; have hlx := lt_of_block hb3x); (refine with_q (w0 := W5) ?hq2 hqx ?_); (case hq2 => (repeat (first | with_reducible exact hqc | with_reducible exact Quiet0.refl _ | with_reducible refine Quiet0.trans ?_ (Quiet0.alloc _ _) | with_reducible refine Quiet0.trans ?_ (Quiet0.drew _) | fail))); intro hqc)
            | fail)
        all_goals
          clear HSS a0 a1 a2 a3 a4 a5 a6 a7 a8 y0 y1 y2 y3 y4 y5 y6 y7 y8 g0 g1 g2 g3 g4 g5 g6 g7 g8 m0 m1' m2' m3 m4 m5 m6 m7 m8 z0 z1 z2 z3 z4 z5 z6 z7 z8 hb3x
          have HAN : Hid (ApRel B1 B3 W2 ((put9 wx B3 (.int .i64 5) (.string ⟨#[]⟩) (.int .i64 0) (.int .i64 0) (.int .i64 0) (.slice none 0 0) (.slice (some ⟨wx.heap.size, 0, none⟩) 2 2) (.int .i64 0) (.int .i64 0)).alloc (.cells (cells18 g p1 m1 d1 p2 m2 d2 hd q5 v1 e5 q6 v2 e6) 35)) appNd (.cons g gs (.cons hd qs .nil))) := Lib.hid (ap_next HFR.out HQ5.out hqc HB3W.out HB13.out HP1.out HP2.out hk5 hk6)
          unfold put9 at HAN
          clear hqc hk5 hk6
          go_wp2_with fail
          go_roundw
          case rel => exact ⟨i + 1, appNd, _, by go_num, by omega, HFO.out, HAN.out⟩
          case measure => simp [intOf]; omega
      · have hlt' : ¬ (i : Int) < n := by omega
        have hfin : (g, gs) = fin := by
          rw [To.drop_end r i (by have := HRL.out; omega)] at hfo; exact hfo
        have HFI := Lib.hid hfin
        obtain ⟨⟨p1, m1, d1, p2, m2, d2, hbx, hp1, hp2⟩, hfr⟩ := hap
        have hb1 := (hfr.block B1 (by have := HZ2.out; have := HB13.out; omega) (by have := HB13.out; show ¬ B1 = B3; omega)).trans HB1W.out
        obtain ⟨⟨x0, x1, x2, x3, x4, x5, x6, x7, x8⟩, y0, y1, y2, y3, y4, y5, y6, y7, y8⟩ := block9 hbx
        obtain ⟨⟨z0, z1, z2, z3, z4, z5, z6, z7, z8⟩, t0, t1, t2, t3, t4, t5, t6, t7, t8⟩ := block9 hb1
        have HB1R := Lib.hid hb1
        have HP1 := Lib.hid hp1
        have HP2 := Lib.hid hp2
        have HFR := Lib.hid hfr
        clear hfin hfo hbx hp1 hp2 hfr hb1
        go_wp2_with fail
        change bodyPost _ _ _ _ _ (put9 wr B1 (.int .i64 g.k) (.string g.nm) (.int .i64 g.n) (.int .i64 g.tk) (.int .i64 g.tn) (.slice p1 m1 d1) (.slice p2 m2 d2) (.int .i64 g.fr) (.int .i64 g.en))
        have hff := put9_fr wr B1 (.int .i64 g.k) (.string g.nm) (.int .i64 g.n) (.int .i64 g.tk) (.int .i64 g.tn) (.slice p1 m1 d1) (.slice p2 m2 d2) (.int .i64 g.fr) (.int .i64 g.en)
        have hbf := put9_block (a0 := .int .i64 g.k) (a1 := .string g.nm) (a2 := .int .i64 g.n) (a3 := .int .i64 g.tk) (a4 := .int .i64 g.tn) (a5 := .slice p1 m1 d1) (a6 := .slice p2 m2 d2) (a7 := .int .i64 g.fr) (a8 := .int .i64 g.en) HB1R.out
        clear x0 x1 x2 x3 x4 x5 x6 x7 x8 y0 y1 y2 y3 y4 y5 y6 y7 y8 z0 z1 z2 z3 z4 z5 z6 z7 z8 t0 t1 t2 t3 t4 t5 t6 t7 t8
        generalize (put9 wr B1 (.int .i64 g.k) (.string g.nm) (.int .i64 g.n) (.int .i64 g.tk) (.int .i64 g.tn) (.slice p1 m1 d1) (.slice p2 m2 d2) (.int .i64 g.fr) (.int .i64 g.en)) = wf at *
        obtain ⟨⟨x0, x1, x2, x3, x4, x5, x6, x7, x8⟩, _⟩ := block9 hbf
        refine bodyPost_ret (by simp [results, Tryd.results24, go_sem, x0, x1, x2, x3, x4, x5, x6, x7, x8]; rfl) rfl ?_
        rw [← HFI.out]
        refine ⟨p1, m1, d1, p2, m2, d2, rfl, HP1.out.fr hff (fun k _ hk => ⟨by have := hk.1; have := HBE.out; omega, fun e => by have := hk.1; omega⟩), HP2.out.fr hff (fun k _ hk => ⟨by have := hk.1; have := HBE.out; omega, fun e => by have := hk.1; omega⟩), ?_⟩
        exact Fr.trans' (HQW.out _ HFR.out) hff (fun k hk e => by have := HBE.out; omega)
end Go.Proofs.YtggidhgifaekbaaDoor
