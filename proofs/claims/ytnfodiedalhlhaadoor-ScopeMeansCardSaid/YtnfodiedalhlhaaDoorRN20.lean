/-
  Texts laid together (ScRn0, ScRn1): laws and walks, with their conditions in their statements.
-/
import Derived.Test.YtnfodiedalhlhaaDoorRN19
section
namespace Go.Proofs.YtnfodiedalhlhaaDoor
open Go.RowKit Go.Shelf
namespace Sc
def RBox (w : World) (fb nb : Nat) : Prop := w.heap[fb]? = some (.cells #[.func (.func 52) #[] #[.pointer (some ⟨nb, 0, none⟩), .pointer (some ⟨fb, 0, none⟩)]] 73 (0, 0))
def NBox (L : Nat → Prop) (w : World) (nb : Nat) (l : List ByteArray) : Prop := ∃ ro rc, w.heap[nb]? = some (.cells #[.slice ro l.length rc] 40 (0, 0)) ∧ StrT L w ro l ∧ l.length ≤ rc
theorem NBox.fr {L S : Nat → Prop} {w w' : World} {nb : Nat} {l : List ByteArray} (h : NBox L w nb l) (hf : Fr S w w') (hn : ¬ S nb) (hL : ∀ k, L k → ¬ S k) : NBox L w' nb l := by
  obtain ⟨ro, rc, h1, h2, h3⟩ := h
  exact ⟨ro, rc, blk_fr hf hn h1, h2.fr hf (fun k _ hk => ⟨hk, hL k hk⟩), h3⟩
def RnQ (R D L : Nat → Prop) (nb : Nat) (x y l : List ByteArray) (h : Nd) (ps : To) (o1 : Option Addr) (l1 c1 : Nat) (o2 : Option Addr) (l2 c2 : Nat) (w : World) (z : Ending) (w' : World) : Prop :=
  z = .returned (tmv (call1 okN x y l h ps).1 o1 l1 c1 o2 l2 c2) ∧ TO R w' D o2 l2 (call1 okN x y l h ps).2.1 ∧ NBox L w' nb (call1 okN x y l h ps).2.2 ∧ Fr (fun k => D k ∨ k = nb) w w'
structure RnA (R D L T T' : Nat → Prop) (nb fb : Nat) (w : World) : Prop where
  d : ∀ k, D k → k < w.heap.size
  nd : ¬ D nb
  fd : ¬ D fb
  nf : nb ≠ fb
  r : ∀ k, R k → k < w.heap.size ∧ ¬ D k ∧ k ≠ nb
  l : ∀ k, L k → k < w.heap.size ∧ ¬ D k ∧ k ≠ nb
  t : ∀ k, T k → ¬ D k ∧ k ≠ nb
  t' : ∀ k, T' k → ¬ D k ∧ k ≠ nb
  sp : ∀ W, Fr (fun k => D k ∨ k = nb) w W → Lx.Spaces W
def TRn (h : Nd) (ps : To) : Prop := ∀ (w : World) (R D L T T' : Nat → Prop) (nb fb : Nat) (x y l : List ByteArray) (o1 : Option Addr) (l1 c1 : Nat) (o2 : Option Addr) (l2 c2 : Nat) (no : Option Addr) (nn nc : Nat) (no' : Option Addr) (nc' : Nat),
  RnA R D L T T' nb fb w → RBox w fb nb → NBox L w nb l → l.length ≤ 1000 → (∀ s ∈ l, s.size ≤ 1000) → NmIn T w no nn x → nn ≤ nc → NmIn T' w no' nn y → nn ≤ nc' → SlcIn R w o1 l1 h.tp → TO R w D o2 l2 ps → nn + ps.size ≤ 200000 →
  Calls Tryd.prog 52 #[tmv h o1 l1 c1 o2 l2 c2, .slice no nn nc, .slice no' nn nc', .pointer (some ⟨nb, 0, none⟩), .pointer (some ⟨fb, 0, none⟩)] w (RnQ R D L nb x y l h ps o1 l1 c1 o2 l2 c2 w)
def RnI (R D L : Nat → Prop) (E : Nat → Nat → Prop) (nb b9 : Nat) (x y : List ByteArray) (h : Nd) (nm2 : ByteArray) (ps : To) (l2 : Nat) (FP : To) (FL : List ByteArray) (wx : World) (t : Value) (wr : World) : Prop :=
  ∃ (i : Nat) (p : To) (lr : List ByteArray), t = .int .i64 i ∧ i ≤ l2 ∧ p.length = i ∧ p.app (callR okN h.k h.nm nm2 i x y lr (ps.drop i)).1 = FP ∧ (callR okN h.k h.nm nm2 i x y lr (ps.drop i)).2 = FL ∧
    (0 < l2 → TermB wr b9 ∧ TOI R wr E b9 0 (p.app (ps.drop i))) ∧ NBox L wr nb lr ∧ lr.length ≤ 1000 ∧ (∀ s ∈ lr, s.size ≤ 1000) ∧ Fr (fun k => D k ∨ k = nb) wx wr
theorem Spaces.fr_of {w w' : World} {S : Nat → Prop} (h : Lx.Spaces w) (hf : Fr S w w') (hS : ∀ k, k < w.heap.size → ¬ S k) : Lx.Spaces w' := Lx.Spaces.stay h (hf.mono (fun k hk hs => hS k hk hs))
theorem RnI.drew {R D L : Nat → Prop} {E : Nat → Nat → Prop} {nb b9 : Nat} {x y : List ByteArray} {h : Nd} {nm2 : ByteArray} {ps : To} {l2 : Nat} {FP : To} {FL : List ByteArray} {wx : World} {t : Value} {wr : World} (hrn : RnI R D L E nb b9 x y h nm2 ps l2 FP FL wx t wr) : RnI R D L E nb b9 x y h nm2 ps l2 FP FL wx t wr.drew := by
  obtain ⟨i, p, lr, h1, h2, h3, h4, h5, h6, h7, h8, h9, h10⟩ := hrn
  refine ⟨i, p, lr, h1, h2, h3, h4, h5, fun h0 => ?_, h7.fr (Fr.drew (fun _ => False) wr) (fun h => h) (fun _ _ h => h), h8, h9, h10.trans (Fr.drew _ wr)⟩
  obtain ⟨g1, g2⟩ := h6 h0
  exact ⟨g1.fr (Fr.drew (fun _ => False) wr) (fun h => h), TOI.keep (Fr.drew (fun _ => False) wr) (fun _ _ hk => ⟨hk, fun h => h⟩) _ _ _ _ g2 (fun _ _ _ => rfl) (fun _ _ _ h => h)⟩
theorem rn_next {R : Nat → Prop} {wr w2 : World} {E : Nat → Nat → Prop} {nb b9 : Nat} {p r : To} {hd gh : Nd} {qs gp : To} {p1 : Option Addr} {m1 d1 : Nat} {p2 : Option Addr} {m2 d2 : Nat}
    (ht : TOI R wr E b9 0 (p.app (.cons hd qs r))) (htb : TermB wr b9) (hE : ∀ j k, E j k → k ≠ b9 ∧ k ≠ nb) (hnb : b9 ≠ nb) (hdj : ∀ i j k, E i k → E j k → i = j) (hRE : ∀ k, R k → ¬ (k = b9 ∨ (E p.length k ∨ k = nb))) (hf : Fr (fun k => E p.length k ∨ k = nb) wr w2)
    (hc : Cells9 wr b9 (p.length * 9) hd p1 m1 d1 p2 m2 d2) (hs : SlcIn R wr p1 m1 gh.tp) (hto : TO R w2 (E p.length) p2 m2 gp) :
    TOI R (put9at w2 b9 (p.length * 9) (.int .i64 gh.k) (.string gh.nm) (.int .i64 gh.n) (.int .i64 gh.tk) (.int .i64 gh.tn) (.slice p1 m1 d1) (.slice p2 m2 d2) (.int .i64 gh.fr) (.int .i64 gh.en)) E b9 0 (p.app (.cons gh gp r)) := by
  have hb : ¬ (E p.length b9 ∨ b9 = nb) := fun h => h.elim (fun h => (hE _ _ h).1 rfl) hnb
  have hlt : b9 < wr.heap.size := by obtain ⟨cur, h⟩ := htb; exact lt_of_block h
  have hf9 := put9at_fr w2 b9 (p.length * 9) (.int .i64 gh.k) (.string gh.nm) (.int .i64 gh.n) (.int .i64 gh.tk) (.int .i64 gh.tn) (.slice p1 m1 d1) (.slice p2 m2 d2) (.int .i64 gh.fr) (.int .i64 gh.en)
  have hff : Fr (fun k => k = b9 ∨ (E p.length k ∨ k = nb)) wr (put9at w2 b9 (p.length * 9) (.int .i64 gh.k) (.string gh.nm) (.int .i64 gh.n) (.int .i64 gh.tk) (.int .i64 gh.tn) (.slice p1 m1 d1) (.slice p2 m2 d2) (.int .i64 gh.fr) (.int .i64 gh.en)) := (hf.mono (fun _ _ h => .inr h)).trans (hf9.mono (fun _ _ h => .inl h))
  refine TOI.put hff (fun k _ hk => hRE k hk) p E b9 0 hd gh qs gp r ht ?_ ?_ ?_
  · intro c _ hcc
    rw [put9at_other _ _ _ _ _ _ _ _ _ _ _ _ c (by omega)]
    exact hf.cellb hlt hb
  · rintro j k hk hj (h | h | h)
    · exact (hE _ _ hk).1 h
    · exact hj (hdj _ _ _ hk h)
    · exact (hE _ _ hk).2 h
  · rw [Nat.zero_add]
    exact ⟨p1, m1, d1, p2, m2, d2, put9at_cells (hc.fr hf hb), hs.fr hff (fun k _ hk => ⟨hk, hRE k hk⟩), hto.fr hf9 (fun k _ hk => ⟨hk, fun e => hRE k hk (.inl e)⟩) (fun k hk e => (hE _ _ hk).1 e)⟩
theorem rn_rnd {R D L T T' : Nat → Prop} {E : Nat → Nat → Prop} {nb fb b9 : Nat} {x y lr : List ByteArray} {h : Nd} {nm2 : ByteArray} {ps p : To} {l2 i : Nat} {FP : To} {FL : List ByteArray} {w wx wr w2 : World} {hd gh : Nd} {qs gp : To} {lq : List ByteArray} {p1 : Option Addr} {m1 d1 : Nat} {p2 : Option Addr} {m2 d2 : Nat} {t : Value} (hA : RnA R D L T T' nb fb w) (ht : t = .int .i64 ((i : Int) + 1)) (hp : p.length = i)
    (hpe : p.app (callR okN h.k h.nm nm2 i x y lr (ps.drop i)).1 = FP) (hal : (callR okN h.k h.nm nm2 i x y lr (ps.drop i)).2 = FL) (hdr : ps.drop i = .cons hd qs (ps.drop (i + 1))) (hlt : i < l2) (ha : TOI R wr E b9 0 (p.app (.cons hd qs (ps.drop (i + 1))))) (htb : TermB wr b9) (hE : ∀ j k, E j k → D k ∧ k ≠ b9) (hdb : D b9)
    (hdj : ∀ i j k, E i k → E j k → i = j) (hf3 : Fr (fun k => E i k ∨ k = nb) wr w2) (hc : Cells9 wr b9 (i * 9) hd p1 m1 d1 p2 m2 d2) (hs : SlcIn R wr p1 m1 gh.tp) (hq : call1 okN (envOf h.k h.nm i x) (envOf h.k nm2 i y) lr hd qs = (gh, gp, lq)) (hto : TO R w2 (E i) p2 m2 gp)
    (hnx : NBox L w2 nb lq) (hl1 : lq.length ≤ 1000) (hl2 : ∀ s ∈ lq, s.size ≤ 1000) (hf : Fr (fun k => D k ∨ k = nb) wx wr) :
    RnI R D L E nb b9 x y h nm2 ps l2 FP FL wx t (put9at w2 b9 (i * 9) (.int .i64 gh.k) (.string gh.nm) (.int .i64 gh.n) (.int .i64 gh.tk) (.int .i64 gh.tn) (.slice p1 m1 d1) (.slice p2 m2 d2) (.int .i64 gh.fr) (.int .i64 gh.en)) := by
  subst hp
  have hnb : ∀ k, D k → k ≠ nb := fun k hk e => hA.nd (e ▸ hk)
  have hf9 := put9at_fr w2 b9 (p.length * 9) (.int .i64 gh.k) (.string gh.nm) (.int .i64 gh.n) (.int .i64 gh.tk) (.int .i64 gh.tn) (.slice p1 m1 d1) (.slice p2 m2 d2) (.int .i64 gh.fr) (.int .i64 gh.en)
  rw [hdr, callR_cons, hq] at hpe hal
  refine ⟨p.length + 1, p.app (.cons gh gp .nil), lq, by rw [ht]; congr 1, hlt, snoc_len _ _ _, ?_, hal, fun _ => ⟨?_, ?_⟩, ?_, hl1, hl2, ?_⟩
  · rw [app_snoc, ← hpe]
  · exact put9at_termB (htb.fr hf3 (fun h => h.elim (fun h => (hE _ _ h).2 rfl) (hnb _ hdb))) _ _ _ _ _ _ _ _ _
  · rw [app_snoc]
    exact rn_next ha htb (fun j k h => ⟨(hE j k h).2, hnb _ (hE j k h).1⟩) (hnb _ hdb) hdj (fun k hk h => by
      have hr := hA.r k hk
      rcases h with h | h | h
      · exact hr.2.1 (h ▸ hdb)
      · exact hr.2.1 (hE _ _ h).1
      · exact hr.2.2 h) hf3 hc hs hto
  · exact hnx.fr hf9 (fun e => hnb _ hdb e.symm) (fun k hk e => (hA.l k hk).2.1 (e ▸ hdb))
  · exact (hf.trans (hf3.mono (fun k _ h => h.imp (fun h => (hE _ _ h).1) id))).trans (hf9.mono (fun k _ h => .inl (h ▸ hdb)))
end Sc
end Go.Proofs.YtnfodiedalhlhaaDoor
end
section
namespace Go.Proofs.YtnfodiedalhlhaaDoor
open Go.RowKit Go.Shelf
namespace Sc
set_option maxRecDepth 100000 in
set_option maxHeartbeats 8000000 in
theorem rn_var (h : Nd) (ps : To) (hk : h.k = 1) : TRn h ps := by
  intro w R D L T T' nb fb x y l o1 l1 c1 o2 l2 c2 no nn nc no' nc' hA hfb hnbx hll hls hN hnc hN' hnc' hs1 hs hsz
  have HA := Lib.hid hA
  have HFB := Lib.hid hfb
  have HNB := Lib.hid hnbx
  have HLL := Lib.hid hll
  have HLS := Lib.hid hls
  have HN := Lib.hid hN
  have HN' := Lib.hid hN'
  have HS1 := Lib.hid hs1
  have HS := Lib.hid hs
  have hfl := lt_of_block hfb
  have hnl : nb < w.heap.size := by obtain ⟨_, _, h, _⟩ := hnbx; exact lt_of_block h
  obtain ⟨W0, hW0⟩ : ∃ W0, W0 = (w.alloc (.cells (cells9 h o1 l1 c1 o2 l2 c2) 30)).alloc (.cells zero9 30) := ⟨_, rfl⟩
  have HQ0 : Hid (Quiet0 w W0) := by rw [hW0]; exact (Quiet0.alloc _ _).trans (Quiet0.alloc _ _)
  have HB0 : Hid (W0.heap[w.heap.size]? = some (.cells (cells9 h o1 l1 c1 o2 l2 c2) 30 (0, 0))) := by
    show _ = _; rw [hW0, Below.heap_alloc _ _ _ (by simp)]; exact heap_alloc_new w _
  have HB1 : Hid (W0.heap[w.heap.size + 1]? = some (.cells zero9 30 (0, 0))) := by
    show _ = _; rw [hW0]
    have := heap_alloc_new (w.alloc (.cells (cells9 h o1 l1 c1 o2 l2 c2) 30)) (.cells zero9 30)
    simpa using this
  have HZ : Hid (W0.heap.size = w.heap.size + 2) := by show _ = _; rw [hW0]; simp
  have HI := Lib.hid (index_any T x h.nm no nn nc W0 (hN.stay HQ0.out) (by omega))
  have hk' : (h.k == 1) = true := by simp [hk]
  have HC1 : Hid (call1 okN x y l h ps = ({ h with nm := varNm x y h.nm }, ps, l)) := by show _ = _; unfold call1; rw [if_pos hk]
  have hge := ix_ge x h.nm
  have hnx : ix x h.nm < nn := by rw [hN.1]; exact hge.2
  replace hge := hge.1
  have HV : Hid (varNm x y h.nm = if 0 ≤ ix x h.nm then y.getD (ix x h.nm).toNat ByteArray.empty else h.nm) := rfl
  generalize ix x h.nm = r at *
  generalize varNm x y h.nm = nm2 at *
  have HFIN0 : Hid (∀ (W1 wf : World) (gg : Nd), gg = { h with nm := nm2 } → Fr (fun k => k = w.heap.size) W0 W1 → Fr (fun k => k = w.heap.size + 1) W1 wf → RnQ R D L nb x y l h ps o1 l1 c1 o2 l2 c2 w (.returned (tmv gg o1 l1 c1 o2 l2 c2)) wf) := by
    intro W1 wf gg hgg hf1 hf2
    subst hgg
    have hz := HZ.out
    have h1 := hf1.size
    have hff : Fr (fun k => k = w.heap.size ∨ k = w.heap.size + 1) W0 wf := (hf1.mono (fun _ _ h => .inl h)).trans (hf2.mono (fun _ _ h => .inr h))
    refine ⟨by rw [HC1.out], ?_, ?_, (HQ0.out.trans' hff (fun k hk h => by omega)).mono (fun _ _ h => h.elim)⟩
    · rw [HC1.out]
      exact (hs.stay HQ0.out).fr hff (fun k _ hk => ⟨hk, fun e => by have := (hA.r k hk).1; omega⟩) (fun k hk e => by have := hA.d k hk; omega)
    · rw [HC1.out]
      exact (hnbx.fr HQ0.out (fun h => h) (fun _ _ h => h)).fr hff (fun e => by omega) (fun k hk e => by have := (hA.l k hk).1; omega)
  clear hA hfb hnbx hll hls hN hN' hs1 hs hk HC1
  unfold tmv at HFIN0 ⊢
  go_enter Tryd.func52, Tryd.ntmps52
  go_upto_region 1 with fail
  rw [← hW0]
  clear hW0
  generalize hB : w.heap.size = B at *
  have HBE := Lib.hid hB
  clear hB
  obtain ⟨⟨x0, x1, x2, x3, x4, x5, x6, x7, x8⟩, y0, y1, y2, y3, y4, y5, y6, y7, y8⟩ := block9 HB0.out
  go_upto_region 2 with fail
  go_wp2_with fail
  refine HI.out.mono ?_; rintro x w2 ⟨rfl, rfl⟩
  by_cases hx : r ≥ 0
  · obtain ⟨k, rfl⟩ : ∃ k : Nat, r = k := ⟨r.toNat, by omega⟩
    obtain ⟨b, rfl, g0⟩ := nm_at (HN'.out.stay HQ0.out) k (by omega)
    have hidx : ((nn : Int) - 1 - (k : Int)).toNat = nn - 1 - k := by omega
    have hb1 : (0 : Int) ≤ (nn : Int) - 1 - (k : Int) := by omega
    have hb2 : (nn : Int) - 1 - (k : Int) < nn := by omega
    have hnn : nn ≤ 200000 := by omega
    have HNM : Hid (y.getD k ByteArray.empty = nm2) := by
      have h := HV.out
      rw [if_pos (by omega)] at h
      rw [h]; rfl
    rw [HNM.out] at g0
    clear HV
    go_upto_region 5 with fail
    have HBA : Hid ((W0.setCell ⟨B, 1, none⟩ (.string nm2)).heap[B]? = some (.cells (cells9 { h with nm := nm2 } o1 l1 c1 o2 l2 c2) 30 (0, 0))) := set_block (i := 1) (u := .string nm2) HB0.out
    have HFX : Hid (Fr (fun k => k = B) W0 (W0.setCell ⟨B, 1, none⟩ (.string nm2))) := Fr.setCell _ _ _ _ rfl
    clear x0 x1 x2 x3 x4 x5 x6 x7 x8 y0 y1 y2 y3 y4 y5 y6 y7 y8
    generalize W0.setCell ⟨B, 1, none⟩ (.string nm2) = W1 at *
    have HBZ : Hid (W1.heap[B + 1]? = some (.cells zero9 30 (0, 0))) := blk_fr HFX.out (by omega) HB1.out
    obtain ⟨⟨x0, x1, x2, x3, x4, x5, x6, x7, x8⟩, _⟩ := block9 HBA.out
    obtain ⟨⟨z0, z1, z2, z3, z4, z5, z6, z7, z8⟩, t0, t1, t2, t3, t4, t5, t6, t7, t8⟩ := block9 HBZ.out
    go_wp2_with fail
    have hff := put9_fr W1 (B + 1) (.int .i64 h.k) (.string nm2) (.int .i64 h.n) (.int .i64 h.tk) (.int .i64 h.tn) (.slice o1 l1 c1) (.slice o2 l2 c2) (.int .i64 h.fr) (.int .i64 h.en)
    have hbf := put9_block (a0 := .int .i64 h.k) (a1 := .string nm2) (a2 := .int .i64 h.n) (a3 := .int .i64 h.tk) (a4 := .int .i64 h.tn) (a5 := .slice o1 l1 c1) (a6 := .slice o2 l2 c2) (a7 := .int .i64 h.fr) (a8 := .int .i64 h.en) HBZ.out
    change bodyPost _ _ _ _ _ (put9 W1 (B + 1) (.int .i64 h.k) (.string nm2) (.int .i64 h.n) (.int .i64 h.tk) (.int .i64 h.tn) (.slice o1 l1 c1) (.slice o2 l2 c2) (.int .i64 h.fr) (.int .i64 h.en))
    clear x0 x1 x2 x3 x4 x5 x6 x7 x8 z0 z1 z2 z3 z4 z5 z6 z7 z8 t0 t1 t2 t3 t4 t5 t6 t7 t8
    generalize put9 W1 (B + 1) (.int .i64 h.k) (.string nm2) (.int .i64 h.n) (.int .i64 h.tk) (.int .i64 h.tn) (.slice o1 l1 c1) (.slice o2 l2 c2) (.int .i64 h.fr) (.int .i64 h.en) = wf at *
    obtain ⟨⟨x0, x1, x2, x3, x4, x5, x6, x7, x8⟩, _⟩ := block9 hbf
    have HFIN : Hid (RnQ R D L nb x y l h ps o1 l1 c1 o2 l2 c2 w (.returned (.agg #[.int .i64 h.k, .string nm2, .int .i64 h.n, .int .i64 h.tk, .int .i64 h.tn, .slice o1 l1 c1, .slice o2 l2 c2, .int .i64 h.fr, .int .i64 h.en])) wf) := HFIN0.out W1 wf _ rfl HFX.out hff
    clear hff hbf
    refine bodyPost_ret (by simp [results, Tryd.results52, go_sem, x0, x1, x2, x3, x4, x5, x6, x7, x8]; rfl) rfl ?_
    exact HFIN.out
  · have HNM : Hid (nm2 = h.nm) := by
      have h := HV.out
      rw [if_neg (by omega)] at h
      exact h
    clear HV y0 y1 y2 y3 y4 y5 y6 y7 y8
    obtain ⟨⟨z0, z1, z2, z3, z4, z5, z6, z7, z8⟩, t0, t1, t2, t3, t4, t5, t6, t7, t8⟩ := block9 HB1.out
    go_wp2_with fail
    have hff := put9_fr W0 (B + 1) (.int .i64 h.k) (.string h.nm) (.int .i64 h.n) (.int .i64 h.tk) (.int .i64 h.tn) (.slice o1 l1 c1) (.slice o2 l2 c2) (.int .i64 h.fr) (.int .i64 h.en)
    have hbf := put9_block (a0 := .int .i64 h.k) (a1 := .string h.nm) (a2 := .int .i64 h.n) (a3 := .int .i64 h.tk) (a4 := .int .i64 h.tn) (a5 := .slice o1 l1 c1) (a6 := .slice o2 l2 c2) (a7 := .int .i64 h.fr) (a8 := .int .i64 h.en) HB1.out
    change bodyPost _ _ _ _ _ (put9 W0 (B + 1) (.int .i64 h.k) (.string h.nm) (.int .i64 h.n) (.int .i64 h.tk) (.int .i64 h.tn) (.slice o1 l1 c1) (.slice o2 l2 c2) (.int .i64 h.fr) (.int .i64 h.en))
    clear x0 x1 x2 x3 x4 x5 x6 x7 x8 z0 z1 z2 z3 z4 z5 z6 z7 z8 t0 t1 t2 t3 t4 t5 t6 t7 t8
    generalize put9 W0 (B + 1) (.int .i64 h.k) (.string h.nm) (.int .i64 h.n) (.int .i64 h.tk) (.int .i64 h.tn) (.slice o1 l1 c1) (.slice o2 l2 c2) (.int .i64 h.fr) (.int .i64 h.en) = wf at *
    obtain ⟨⟨x0, x1, x2, x3, x4, x5, x6, x7, x8⟩, _⟩ := block9 hbf
    have HFIN : Hid (RnQ R D L nb x y l h ps o1 l1 c1 o2 l2 c2 w (.returned (.agg #[.int .i64 h.k, .string h.nm, .int .i64 h.n, .int .i64 h.tk, .int .i64 h.tn, .slice o1 l1 c1, .slice o2 l2 c2, .int .i64 h.fr, .int .i64 h.en])) wf) := HFIN0.out W0 wf h (by rw [HNM.out]) (Fr.refl _ _) hff
    clear hff hbf
    refine bodyPost_ret (by simp [results, Tryd.results52, go_sem, x0, x1, x2, x3, x4, x5, x6, x7, x8]; rfl) rfl ?_
    exact HFIN.out
end Sc
end Go.Proofs.YtnfodiedalhlhaaDoor
end
