/-
  Texts laid together (ScRFree, TeCopy, TeOwn, ScWalk0): what each one proves, and its conditions, stands at its head.
-/
import Derived.Deep.RegionLawGrows
import Derived.Test.YtnfodiedalhlhaaDoorSA1
import Derived.Test.YtnfodiedalhlhaaDoorSA2
import Derived.Test.YtnfodiedalhlhaaDoorSA3
import Derived.Test.YtnfodiedalhlhaaDoorSA4
import Derived.Test.YtnfodiedalhlhaaDoorSA5
import Derived.Test.YtnfodiedalhlhaaDoorSA6
import Derived.Test.YtnfodiedalhlhaaDoorSA7
section
/-
  The document's Free: the free variables, in order. Conditions: the term and the names lie in memory as told; there are few; a variable has no parts.
-/
namespace Go.Proofs.YtnfodiedalhlhaaDoor
open Go.RowKit Go.Shelf
namespace Sc

def varOk (h : Nd) (ps : To) : Prop := h.k = 1 → ps = .nil
def allV : To → Prop
  | .nil => True
  | .cons h ps r => varOk h ps ∧ allV ps ∧ allV r
theorem allV_get : ∀ (f : To) (i : Nat) (h : Nd) (ps : To), allV f → f.get i = some (h, ps) → varOk h ps ∧ allV ps
  | .nil, i, h, ps, _, e => by simp [To.get] at e
  | .cons h ps r, 0, h', ps', hw, e => by
    simp [To.get] at e
    obtain ⟨rfl, rfl⟩ := e
    exact ⟨hw.1, hw.2.1⟩
  | .cons h ps r, i + 1, h', ps', hw, e => allV_get r i h' ps' hw.2.2 e
theorem okF_allV : ∀ f : To, okF f → allV f
  | .nil, _ => trivial
  | .cons _ ps r, hw => ⟨hw.1, okF_allV ps hw.2.2.1, okF_allV r hw.2.2.2⟩
theorem free1_var {e : List ByteArray} {h : Nd} {ps : To} (hk : h.k = 1) : free1 e h ps = if ix e h.nm < 0 then [h] else [] := by unfold free1; rw [if_pos hk]
theorem free1_no {e : List ByteArray} {h : Nd} {ps : To} (hk : ¬ h.k = 1) : free1 e h ps = freeL h.k h.nm 0 e ps := by unfold free1; rw [if_neg hk]
theorem free_len : ∀ (f : To) (bk : Int) (nm : ByteArray) (i : Nat) (e : List ByteArray), (freeL bk nm i e f).length ≤ f.size
  | .nil, _, _, _, _ => Nat.zero_le _
  | .cons h ps r, bk, nm, i, e => by
    have h1 := free_len ps h.k h.nm 0 (envOf bk nm i e)
    have h2 := free_len r bk nm (i + 1) e
    rw [freeL_cons, List.length_append]
    simp only [To.size]
    unfold free1
    split
    · split
      · simp; omega
      · simp; omega
    · omega
theorem free1_len (e : List ByteArray) (h : Nd) (ps : To) : (free1 e h ps).length ≤ ps.size + 1 := by
  have := free_len (.cons h ps .nil) 0 ByteArray.empty 0 e
  rw [freeL_cons] at this
  simp only [To.size, List.length_append] at this
  have he : envOf 0 ByteArray.empty 0 e = e := by unfold envOf bindsB; simp
  rw [he] at this
  simp [freeL] at this
  omega
def RFreeT (h : Nd) (ps : To) : Prop := ∀ (w : World) (R T : Nat → Prop) (o1 : Option Addr) (l1 c1 : Nat) (o2 : Option Addr) (l2 c2 : Nat) (no : Option Addr) (nn nc : Nat) (e : List ByteArray), TSlc R w o2 l2 ps → NmIn T w no nn e → nn + ps.size ≤ 200000 → varOk h ps → allV ps →
  Calls Tryd.prog 14 #[tmv h o1 l1 c1 o2 l2 c2, .slice no nn nc] w (ListQ w (free1 e h ps))
set_option maxRecDepth 100000 in
set_option maxHeartbeats 4000000 in
theorem refFree_any (h : Nd) (ps : To) : RFreeT h ps := by
  refine To.ind' (T := RFreeT) ?_ h ps
  intro h ps ih w R T o1 l1 c1 o2 l2 c2 no nn nc e hs hN hsz hv hav
  have HS := Lib.hid hs
  have IH := Lib.hid ih
  have HN := Lib.hid hN
  have HAV := Lib.hid hav
  have hl := hs.1
  have hll := To.length_le ps
  rw [← hl] at hll
  have HL := Lib.hid hl
  obtain ⟨W0, hW0⟩ : ∃ W0, W0 = w.alloc (.cells (cells9 h o1 l1 c1 o2 l2 c2) 30) := ⟨_, rfl⟩
  have HB : Hid (∀ W, Quiet0 W0 W → Cells9 W w.heap.size 0 h o1 l1 c1 o2 l2 c2) := by
    intro W hq; rw [hW0] at hq; exact box9 w h o1 l1 c1 o2 l2 c2 _ W hq
  have HQ0 : Hid (Quiet0 w W0) := by rw [hW0]; exact Quiet0.alloc _ _
  have HZ : Hid (W0.heap.size = w.heap.size + 1) := by show _ = _; rw [hW0]; simp
  have HI := Lib.hid (refIndex_any T e h.nm no nn nc W0 (hN.stay HQ0.out) (by omega))
  have HNL := Lib.hid hN.1
  clear hs ih hl hN hav
  unfold tmv
  by_cases hk : h.k = 1
  · have hk' : (h.k == 1) = true := by simp [hk]
    have hps : ps = .nil := hv hk
    rw [free1_var hk]
    have HL0 : Hid (l2 = 0) := by have := HL.out; rw [hps] at this; exact this
    clear hk hps hv
    generalize ix e h.nm = r at *
    by_cases hx : r < 0
    · rw [if_pos hx]
      go_enter Tryd.func14, Tryd.ntmps14
      go_upto_region 1 with fail
      rw [← hW0]
      clear hW0
      obtain ⟨a0, a1, a2, a3, a4, a5, a6, a7, a8⟩ := HB.out W0 (Quiet0.refl _)
      have hz0 := HZ.out
      obtain ⟨W1, hW1⟩ : ∃ W1, W1 = W0.alloc (.cells (cells9 h o1 l1 c1 o2 l2 c2) 30) := ⟨_, rfl⟩
      have hnew := heap_alloc_new W0 (.cells (cells9 h o1 l1 c1 o2 l2 c2) 30)
      rw [← hW1] at hnew
      have HQ1 : Hid (Quiet0 W0 W1) := by rw [hW1]; exact Quiet0.alloc _ _
      have HROW : Hid (ListN w.heap.size W1 (some ⟨W0.heap.size, 0, none⟩) 1 [h] (cells9 h o1 l1 c1 o2 l2 c2).toList) := by
        refine ⟨⟨rfl, .inr ⟨W0.heap.size, 1, cells9 h o1 l1 c1 o2 l2 c2, rfl, Nat.zero_le _, hnew, Nat.le_refl _, by decide, rfl, rfl⟩⟩, ?_, ?_⟩
        · exact ⟨o1, l1, c1, o2, l2, c2, [], by simp, rfl⟩
        · intro k hk
          simp [Value.ownBlock] at hk
          omega
      clear hnew hz0
      go_wp2_with fail
      refine HI.out.mono ?_; rintro x w2 ⟨rfl, rfl⟩
      go_wp2_with fail
      go_ret
      change ListQ _ _ _ (W0.alloc (.cells (cells9 h o1 l1 c1 o2 l2 c2) 30))
      rw [← hW1]
      exact ⟨_, 1, _, rfl, HROW.out, HQ0.out.trans HQ1.out⟩
    · rw [if_neg hx]
      go_enter Tryd.func14, Tryd.ntmps14
      go_upto_region 1 with fail
      rw [← hW0]
      clear hW0
      obtain ⟨a0, a1, a2, a3, a4, a5, a6, a7, a8⟩ := HB.out W0 (Quiet0.refl _)
      go_wp2_with fail
      refine HI.out.mono ?_; rintro x w2 ⟨rfl, rfl⟩
      go_wp2_with fail
      go_loopw [5, 6] (fun s t wr => s = .slice none 0 0 ∧ t = .int .i64 0 ∧ wr = W0) (fun _ t _ => 0)
      case atStart => exact ⟨rfl, rfl, rfl⟩
      case round =>
        obtain ⟨rfl, rfl, rfl⟩ := hrel
        have h0 := HL0.out
        subst h0
        go_wp2_with fail
        go_ret
        exact ⟨none, 0, [], rfl, list_nil _ _, HQ0.out⟩
  · have hk' : (h.k == 1) = false := by simp [hk]
    rw [free1_no hk]
    obtain ⟨RES, hres⟩ : ∃ RES, RES = freeL h.k h.nm 0 e ps := ⟨_, rfl⟩
    have HRES := Lib.hid hres
    rw [← hres]
    have hlen := free_len ps h.k h.nm 0 e
    rw [← hres] at hlen
    clear hres hv
    go_enter Tryd.func14, Tryd.ntmps14
    go_upto_region 1 with fail
    rw [← hW0]
    clear hW0
    generalize hnb : w.heap.size = nb at *
    have HNB := Lib.hid hnb
    clear hnb
    obtain ⟨a0, a1, a2, a3, a4, a5, a6, a7, a8⟩ := HB.out W0 (Quiet0.refl _)
    go_wp2_with fail
    clear a0 a1 a2 a3 a4 a5 a6 a7 a8
    go_loopw [5, 6] (fun s t wr => ∃ (i n c : Nat) (o : Option Addr) (l : List Nd) (xs : List Value), t = .int .i64 i ∧ s = .slice o n c ∧ i ≤ l2 ∧ l.length = n ∧ l ++ freeL h.k h.nm i e (ps.drop i) = RES ∧ ListN (nb + 1) wr o c l xs ∧ Quiet0 W0 wr) (fun _ t _ => l2 - (intOf t).toNat)
    case atStart => exact ⟨0, 0, 0, none, [], [], rfl, rfl, Nat.zero_le _, rfl, by rw [To.drop_zero, HRES.out]; rfl, list_nil _ _, Quiet0.refl _⟩
    case round =>
      obtain ⟨i, n, c, o, l, xs, rfl, rfl, hi, hln, hn, hrow, hq⟩ := hrel
      have hnz : n ≤ 200000 := by
        have := congrArg List.length hn
        simp only [List.length_append] at this
        omega
      have HLN := Lib.hid hln
      have HNN := Lib.hid hn
      have HR := Lib.hid hrow
      have HQ := Lib.hid hq
      obtain ⟨a0, a1, a2, a3, a4, a5, a6, a7, a8⟩ := HB.out wr hq
      clear hn hrow hq hln
      by_cases hlt : i < l2
      · have hlt' : (i : Int) < l2 := by omega
        obtain ⟨b, off, hd, qs, p1, m1, d1, p2, m2, d2, rfl, hd1, hg, hRb, hc9, hs1, ht1⟩ := (HS.out).nth hlt
        have hblt := hc9.lt
        have hq0r := HQ0.out.trans HQ.out
        have hsq := To.size_get ps i hd qs hg
        have hvq := allV_get ps i hd qs HAV.out hg
        have HKP : Hid (∀ W, Quiet0 wr W → (W.cell? ⟨nb, 0, none⟩ = some (.int .i64 h.k) ∧ W.cell? ⟨nb, 1, none⟩ = some (.string h.nm) ∧ W.cell? ⟨nb, 2, none⟩ = some (.int .i64 h.n) ∧ W.cell? ⟨nb, 3, none⟩ = some (.int .i64 h.tk) ∧ W.cell? ⟨nb, 4, none⟩ = some (.int .i64 h.tn) ∧ W.cell? ⟨nb, 5, none⟩ = some (.slice o1 l1 c1) ∧ W.cell? ⟨nb, 6, none⟩ = some (.slice (some ⟨b, off, none⟩) l2 c2) ∧ W.cell? ⟨nb, 7, none⟩ = some (.int .i64 h.fr) ∧ W.cell? ⟨nb, 8, none⟩ = some (.int .i64 h.en)) ∧ (W.cell? ⟨b, off + i * 9, none⟩ = some (.int .i64 hd.k) ∧ W.cell? ⟨b, off + i * 9 + 1, none⟩ = some (.string hd.nm) ∧ W.cell? ⟨b, off + i * 9 + 2, none⟩ = some (.int .i64 hd.n) ∧ W.cell? ⟨b, off + i * 9 + 3, none⟩ = some (.int .i64 hd.tk) ∧ W.cell? ⟨b, off + i * 9 + 4, none⟩ = some (.int .i64 hd.tn) ∧ W.cell? ⟨b, off + i * 9 + 5, none⟩ = some (.slice p1 m1 d1) ∧ W.cell? ⟨b, off + i * 9 + 6, none⟩ = some (.slice p2 m2 d2) ∧ W.cell? ⟨b, off + i * 9 + 7, none⟩ = some (.int .i64 hd.fr) ∧ W.cell? ⟨b, off + i * 9 + 8, none⟩ = some (.int .i64 hd.en))) := fun W hq => ⟨HB.out W (HQ.out.trans hq), hc9.fr (hq0r.trans hq) (fun h => h)⟩
        have HKF : Hid (∀ W, Fr (fun k => (Value.slice o n c).ownBlock = some k) wr W → (W.cell? ⟨nb, 0, none⟩ = some (.int .i64 h.k) ∧ W.cell? ⟨nb, 1, none⟩ = some (.string h.nm) ∧ W.cell? ⟨nb, 2, none⟩ = some (.int .i64 h.n) ∧ W.cell? ⟨nb, 3, none⟩ = some (.int .i64 h.tk) ∧ W.cell? ⟨nb, 4, none⟩ = some (.int .i64 h.tn) ∧ W.cell? ⟨nb, 5, none⟩ = some (.slice o1 l1 c1) ∧ W.cell? ⟨nb, 6, none⟩ = some (.slice (some ⟨b, off, none⟩) l2 c2) ∧ W.cell? ⟨nb, 7, none⟩ = some (.int .i64 h.fr) ∧ W.cell? ⟨nb, 8, none⟩ = some (.int .i64 h.en)) ∧ (W.cell? ⟨b, off + i * 9, none⟩ = some (.int .i64 hd.k) ∧ W.cell? ⟨b, off + i * 9 + 1, none⟩ = some (.string hd.nm) ∧ W.cell? ⟨b, off + i * 9 + 2, none⟩ = some (.int .i64 hd.n) ∧ W.cell? ⟨b, off + i * 9 + 3, none⟩ = some (.int .i64 hd.tk) ∧ W.cell? ⟨b, off + i * 9 + 4, none⟩ = some (.int .i64 hd.tn) ∧ W.cell? ⟨b, off + i * 9 + 5, none⟩ = some (.slice p1 m1 d1) ∧ W.cell? ⟨b, off + i * 9 + 6, none⟩ = some (.slice p2 m2 d2) ∧ W.cell? ⟨b, off + i * 9 + 7, none⟩ = some (.int .i64 hd.fr) ∧ W.cell? ⟨b, off + i * 9 + 8, none⟩ = some (.int .i64 hd.en))) := fun W hf => ⟨(HB.out wr HQ.out).fr hf (fun hk => by have := HR.out.2.2 _ (by rw [HLN.out]; exact hk); omega), (hc9.fr hq0r (fun h => h)).fr hf (fun hk => by have := HR.out.2.2 _ (by rw [HLN.out]; exact hk); have := HNB.out; omega)⟩
        have HAR : Hid (∀ W, Quiet0 wr W → Calls Tryd.prog 41 #[tmv h o1 l1 c1 (some ⟨b, off, none⟩) l2 c2, .int .i64 (i : Nat), .slice no nn nc] W (NmPost T W (envOf h.k h.nm i e))) := fun W hq => around_any h o1 l1 c1 _ l2 c2 i T e no nn nc W (HN.out.stay (HQ0.out.trans (HQ.out.trans hq))) (by omega)
        have henv : (envOf h.k h.nm i e).length ≤ nn + 1 := by have := HNL.out; unfold envOf; split <;> simp <;> omega
        have HFR : Hid (∀ (W : World) (T : Nat → Prop) (no : Option Addr) (nc : Nat), NmIn T W no (envOf h.k h.nm i e).length (envOf h.k h.nm i e) → Quiet0 wr W → Calls Tryd.prog 14 #[tmv hd p1 m1 d1 p2 m2 d2, .slice no (envOf h.k h.nm i e).length nc] W (ListQ W (free1 (envOf h.k h.nm i e) hd qs))) := fun W T no nc hN hq => IH.out i hd qs hg W R T p1 m1 d1 p2 m2 d2 no _ nc _ (ht1.stay (hq0r.trans hq)) hN (by omega) hvq.1 hvq.2
        have HD : Hid ((l ++ free1 (envOf h.k h.nm i e) hd qs) ++ freeL h.k h.nm (i + 1) e (ps.drop (i + 1)) = RES) := by
          have := HNN.out; rw [hd1, freeL_cons] at this; show _ = _; rw [← this, List.append_assoc]
        have hql := free1_len (envOf h.k h.nm i e) hd qs
        have HZ2 : Hid (nb + 1 ≤ wr.heap.size) := by have := HQ.out.size; have := HZ.out; show _ ≤ _; omega
        unfold tmv at HAR HFR
        generalize envOf h.k h.nm i e = E at *
        generalize free1 E hd qs = l' at *
        have hbd : n + l'.length ≤ 1000000 := by omega
        clear hd1 hg hs1 ht1 hsq hRb hvq hc9 henv hql
        go_upto_region 7 with fail
        clear a0 a1 a2 a3 a4 a5 a6 a7 a8
        have hqc := Quiet0.refl wr
        go_region_held3 (fun W => (W.cell? ⟨nb, 0, none⟩ = some (.int .i64 h.k) ∧ W.cell? ⟨nb, 1, none⟩ = some (.string h.nm) ∧ W.cell? ⟨nb, 2, none⟩ = some (.int .i64 h.n) ∧ W.cell? ⟨nb, 3, none⟩ = some (.int .i64 h.tk) ∧ W.cell? ⟨nb, 4, none⟩ = some (.int .i64 h.tn) ∧ W.cell? ⟨nb, 5, none⟩ = some (.slice o1 l1 c1) ∧ W.cell? ⟨nb, 6, none⟩ = some (.slice (some ⟨b, off, none⟩) l2 c2) ∧ W.cell? ⟨nb, 7, none⟩ = some (.int .i64 h.fr) ∧ W.cell? ⟨nb, 8, none⟩ = some (.int .i64 h.en)) ∧ (W.cell? ⟨b, off + i * 9, none⟩ = some (.int .i64 hd.k) ∧ W.cell? ⟨b, off + i * 9 + 1, none⟩ = some (.string hd.nm) ∧ W.cell? ⟨b, off + i * 9 + 2, none⟩ = some (.int .i64 hd.n) ∧ W.cell? ⟨b, off + i * 9 + 3, none⟩ = some (.int .i64 hd.tk) ∧ W.cell? ⟨b, off + i * 9 + 4, none⟩ = some (.int .i64 hd.tn) ∧ W.cell? ⟨b, off + i * 9 + 5, none⟩ = some (.slice p1 m1 d1) ∧ W.cell? ⟨b, off + i * 9 + 6, none⟩ = some (.slice p2 m2 d2) ∧ W.cell? ⟨b, off + i * 9 + 7, none⟩ = some (.int .i64 hd.fr) ∧ W.cell? ⟨b, off + i * 9 + 8, none⟩ = some (.int .i64 hd.en)))
          (first | ((refine HKF.out _ ?_); exact hqf) | ((refine HKP.out _ ?_); (repeat (first | with_reducible exact hqc | with_reducible exact Quiet0.refl _ | with_reducible refine Quiet0.trans ?_ (Quiet0.alloc _ _) | with_reducible refine Quiet0.trans ?_ (Quiet0.drew _) | fail))))
          (first
            | (go_at_call 41; (with_reducible refine Calls.mono (HAR.out _ ?hq) ?_); (case hq => (repeat (first | with_reducible exact hqc | with_reducible exact Quiet0.refl _ | with_reducible refine Quiet0.trans ?_ (Quiet0.alloc _ _) | with_reducible refine Quiet0.trans ?_ (Quiet0.drew _) | fail))); rintro e wx ⟨no2, nc2, rfl, hn1, hqx⟩; (refine with_q (w0 := wr) ?hq2 hqx ?_); (case hq2 => (repeat (first | with_reducible exact hqc | with_reducible exact Quiet0.refl _ | with_reducible refine Quiet0.trans ?_ (Quiet0.alloc _ _) | with_reducible refine Quiet0.trans ?_ (Quiet0.drew _) | fail))); intro hqc)
            | ((go_at_call 14; (with_reducible refine Calls.mono (HFR.out _ _ _ _ (hn1.stay ?hq3) ?hq) ?_)); (case hq3 => (repeat (first | with_reducible exact Quiet0.refl _ | with_reducible refine Quiet0.trans ?_ (Quiet0.alloc _ _) | with_reducible refine Quiet0.trans ?_ (Quiet0.drew _) | fail))); (case hq => (repeat (first | with_reducible exact hqc | with_reducible exact Quiet0.refl _ | with_reducible refine Quiet0.trans ?_ (Quiet0.alloc _ _) | with_reducible refine Quiet0.trans ?_ (Quiet0.drew _) | fail))); rintro e wx ⟨fo, fc, ys, rfl, hrow, hqx⟩; (refine with_q (w0 := wr) ?hq2 hqx ?_); (case hq2 => (repeat (first | with_reducible exact hqc | with_reducible exact Quiet0.refl _ | with_reducible refine Quiet0.trans ?_ (Quiet0.alloc _ _) | with_reducible refine Quiet0.trans ?_ (Quiet0.drew _) | fail))); intro hqc)
            | ((refine step_list _ rfl (.tmp 26) (.tmp 36) rfl o n c l xs rfl HLN.out ?hown fo l'.length fc l' ys rfl rfl ?hrow2 (Wb := wr) ?hch HZ2.out hbd ?_); (case hown => ((refine ListN.stay HR.out ?_); (repeat (first | with_reducible exact hqc | with_reducible exact Quiet0.refl _ | with_reducible refine Quiet0.trans ?_ (Quiet0.alloc _ _) | with_reducible refine Quiet0.trans ?_ (Quiet0.drew _) | fail)))); (case hrow2 => ((refine ListN.stay (list_low hrow (Nat.zero_le _)) ?_); (repeat (first | with_reducible exact Quiet0.refl _ | with_reducible refine Quiet0.trans ?_ (Quiet0.alloc _ _) | with_reducible refine Quiet0.trans ?_ (Quiet0.drew _) | fail)))); (case hch => (repeat (first | with_reducible exact hqc | with_reducible exact Quiet0.refl _ | with_reducible refine Quiet0.trans ?_ (Quiet0.alloc _ _) | with_reducible refine Quiet0.trans ?_ (Quiet0.drew _) | fail))); intro o3 c3 w3 hr3 hf3; (refine with_frS (w0 := wr) ?hch2 hf3 ?_); (case hch2 => (repeat (first | with_reducible exact hqc | with_reducible exact Quiet0.refl _ | with_reducible refine Quiet0.trans ?_ (Quiet0.alloc _ _) | with_reducible refine Quiet0.trans ?_ (Quiet0.drew _) | fail))); intro hqf)
            | fail)
        all_goals
          have HR3 := Lib.hid hr3
          have HQ3 : Hid (Quiet0 W0 w3) := Fr.trans' HQ.out hqf (fun k hk hs => by have := HR.out.2.2 k (by rw [HLN.out]; exact hs); have := HZ.out; omega)
          have HL3 : Hid ((l ++ l').length = n + l'.length) := by show _ = _; rw [List.length_append, HLN.out]
          clear hr3 hf3 hqf hqc hqx
          go_wp2_with fail
          go_roundw
          case rel => exact ⟨i + 1, n + l'.length, c3, o3, _, xs ++ ys, by go_num, rfl, by omega, HL3.out, HD.out, HR3.out, HQ3.out⟩
          case measure => simp [intOf]; omega
      · have hlt' : ¬ (i : Int) < l2 := by omega
        have HE : Hid (l = RES) := by
          have := HNN.out
          rw [To.drop_end ps i (by have := HL.out; omega)] at this
          show _ = _
          simpa [freeL] using this
        go_wp2_with fail
        go_ret
        rw [← HE.out]
        refine ⟨o, c, xs, by rw [HLN.out]; rfl, ?_, HQ0.out.trans HQ.out⟩
        rw [HNB.out]
        exact list_low HR.out (by omega)
end Sc
end Go.Proofs.YtnfodiedalhlhaaDoor
end
section
/-
  term.Copy. Conditions: the term lies in memory as told; there are few parts of it.
-/
namespace Go.Proofs.YtnfodiedalhlhaaDoor
open Go.RowKit Go.Shelf

/-- a world whose block B gets nine cells anew -/
def put9 (w : World) (B : Nat) (a0 a1 a2 a3 a4 a5 a6 a7 a8 : Value) : World :=
  ((((((((w.setCell ⟨B, 0, none⟩ a0).setCell ⟨B, 1, none⟩ a1).setCell ⟨B, 2, none⟩ a2).setCell ⟨B, 3, none⟩ a3).setCell ⟨B, 4, none⟩ a4).setCell ⟨B, 5, none⟩ a5).setCell ⟨B, 6, none⟩ a6).setCell ⟨B, 7, none⟩ a7).setCell ⟨B, 8, none⟩ a8
theorem put9_fr (w : World) (B : Nat) (a0 a1 a2 a3 a4 a5 a6 a7 a8 : Value) : Fr (fun k => k = B) w (put9 w B a0 a1 a2 a3 a4 a5 a6 a7 a8) :=
  ((((((((Fr.setCell (fun k => k = B) w ⟨B, 0, none⟩ a0 rfl).trans (Fr.setCell (fun k => k = B) _ ⟨B, 1, none⟩ a1 rfl)).trans (Fr.setCell (fun k => k = B) _ ⟨B, 2, none⟩ a2 rfl)).trans (Fr.setCell (fun k => k = B) _ ⟨B, 3, none⟩ a3 rfl)).trans (Fr.setCell (fun k => k = B) _ ⟨B, 4, none⟩ a4 rfl)).trans (Fr.setCell (fun k => k = B) _ ⟨B, 5, none⟩ a5 rfl)).trans (Fr.setCell (fun k => k = B) _ ⟨B, 6, none⟩ a6 rfl)).trans (Fr.setCell (fun k => k = B) _ ⟨B, 7, none⟩ a7 rfl)).trans (Fr.setCell (fun k => k = B) _ ⟨B, 8, none⟩ a8 rfl)
theorem put9_block {w : World} {B : Nat} {a0 a1 a2 a3 a4 a5 a6 a7 a8 b0 b1 b2 b3 b4 b5 b6 b7 b8 : Value} {t : TypeId} (h : w.heap[B]? = some (.cells #[b0, b1, b2, b3, b4, b5, b6, b7, b8] t (0, 0))) :
    (put9 w B a0 a1 a2 a3 a4 a5 a6 a7 a8).heap[B]? = some (.cells #[a0, a1, a2, a3, a4, a5, a6, a7, a8] t (0, 0)) := by
  have s0 : ((w).setCell ⟨B, 0, none⟩ a0).heap[B]? = some (.cells #[a0, b1, b2, b3, b4, b5, b6, b7, b8] t (0, 0)) := set_block h
  have s1 : ((((w).setCell ⟨B, 0, none⟩ a0)).setCell ⟨B, 1, none⟩ a1).heap[B]? = some (.cells #[a0, a1, b2, b3, b4, b5, b6, b7, b8] t (0, 0)) := set_block s0
  have s2 : ((((((w).setCell ⟨B, 0, none⟩ a0)).setCell ⟨B, 1, none⟩ a1)).setCell ⟨B, 2, none⟩ a2).heap[B]? = some (.cells #[a0, a1, a2, b3, b4, b5, b6, b7, b8] t (0, 0)) := set_block s1
  have s3 : ((((((((w).setCell ⟨B, 0, none⟩ a0)).setCell ⟨B, 1, none⟩ a1)).setCell ⟨B, 2, none⟩ a2)).setCell ⟨B, 3, none⟩ a3).heap[B]? = some (.cells #[a0, a1, a2, a3, b4, b5, b6, b7, b8] t (0, 0)) := set_block s2
  have s4 : ((((((((((w).setCell ⟨B, 0, none⟩ a0)).setCell ⟨B, 1, none⟩ a1)).setCell ⟨B, 2, none⟩ a2)).setCell ⟨B, 3, none⟩ a3)).setCell ⟨B, 4, none⟩ a4).heap[B]? = some (.cells #[a0, a1, a2, a3, a4, b5, b6, b7, b8] t (0, 0)) := set_block s3
  have s5 : ((((((((((((w).setCell ⟨B, 0, none⟩ a0)).setCell ⟨B, 1, none⟩ a1)).setCell ⟨B, 2, none⟩ a2)).setCell ⟨B, 3, none⟩ a3)).setCell ⟨B, 4, none⟩ a4)).setCell ⟨B, 5, none⟩ a5).heap[B]? = some (.cells #[a0, a1, a2, a3, a4, a5, b6, b7, b8] t (0, 0)) := set_block s4
  have s6 : ((((((((((((((w).setCell ⟨B, 0, none⟩ a0)).setCell ⟨B, 1, none⟩ a1)).setCell ⟨B, 2, none⟩ a2)).setCell ⟨B, 3, none⟩ a3)).setCell ⟨B, 4, none⟩ a4)).setCell ⟨B, 5, none⟩ a5)).setCell ⟨B, 6, none⟩ a6).heap[B]? = some (.cells #[a0, a1, a2, a3, a4, a5, a6, b7, b8] t (0, 0)) := set_block s5
  have s7 : ((((((((((((((((w).setCell ⟨B, 0, none⟩ a0)).setCell ⟨B, 1, none⟩ a1)).setCell ⟨B, 2, none⟩ a2)).setCell ⟨B, 3, none⟩ a3)).setCell ⟨B, 4, none⟩ a4)).setCell ⟨B, 5, none⟩ a5)).setCell ⟨B, 6, none⟩ a6)).setCell ⟨B, 7, none⟩ a7).heap[B]? = some (.cells #[a0, a1, a2, a3, a4, a5, a6, a7, b8] t (0, 0)) := set_block s6
  have s8 : ((((((((((((((((((w).setCell ⟨B, 0, none⟩ a0)).setCell ⟨B, 1, none⟩ a1)).setCell ⟨B, 2, none⟩ a2)).setCell ⟨B, 3, none⟩ a3)).setCell ⟨B, 4, none⟩ a4)).setCell ⟨B, 5, none⟩ a5)).setCell ⟨B, 6, none⟩ a6)).setCell ⟨B, 7, none⟩ a7)).setCell ⟨B, 8, none⟩ a8).heap[B]? = some (.cells #[a0, a1, a2, a3, a4, a5, a6, a7, a8] t (0, 0)) := set_block s7
  exact s8
/-- a world whose block B gets a type's three cells anew -/
def putT (w : World) (B : Nat) (a3 a4 a5 : Value) : World := ((w.setCell ⟨B, 3, none⟩ a3).setCell ⟨B, 4, none⟩ a4).setCell ⟨B, 5, none⟩ a5
theorem putT_fr (w : World) (B : Nat) (a3 a4 a5 : Value) : Fr (fun k => k = B) w (putT w B a3 a4 a5) :=
  ((Fr.setCell (fun k => k = B) _ ⟨B, 3, none⟩ a3 rfl).trans (Fr.setCell (fun k => k = B) _ ⟨B, 4, none⟩ a4 rfl)).trans (Fr.setCell (fun k => k = B) _ ⟨B, 5, none⟩ a5 rfl)
theorem putT_block {w : World} {B : Nat} {a3 a4 a5 b0 b1 b2 b3 b4 b5 b6 b7 b8 : Value} {t : TypeId} (h : w.heap[B]? = some (.cells #[b0, b1, b2, b3, b4, b5, b6, b7, b8] t (0, 0))) :
    (putT w B a3 a4 a5).heap[B]? = some (.cells #[b0, b1, b2, a3, a4, a5, b6, b7, b8] t (0, 0)) :=
  set_block (i := 5) (u := a5) (set_block (i := 4) (u := a4) (set_block (i := 3) (u := a3) h))
theorem block9 {w : World} {B : Nat} {a0 a1 a2 a3 a4 a5 a6 a7 a8 : Value} {t : TypeId} (h : w.heap[B]? = some (.cells #[a0, a1, a2, a3, a4, a5, a6, a7, a8] t (0, 0))) :
    (w.cell? ⟨B, 0, none⟩ = some a0 ∧ w.cell? ⟨B, 1, none⟩ = some a1 ∧ w.cell? ⟨B, 2, none⟩ = some a2 ∧ w.cell? ⟨B, 3, none⟩ = some a3 ∧ w.cell? ⟨B, 4, none⟩ = some a4 ∧ w.cell? ⟨B, 5, none⟩ = some a5 ∧ w.cell? ⟨B, 6, none⟩ = some a6 ∧ w.cell? ⟨B, 7, none⟩ = some a7 ∧ w.cell? ⟨B, 8, none⟩ = some a8) ∧
    w.frozen? ⟨B, 0, none⟩ = false ∧ w.frozen? ⟨B, 1, none⟩ = false ∧ w.frozen? ⟨B, 2, none⟩ = false ∧ w.frozen? ⟨B, 3, none⟩ = false ∧ w.frozen? ⟨B, 4, none⟩ = false ∧ w.frozen? ⟨B, 5, none⟩ = false ∧ w.frozen? ⟨B, 6, none⟩ = false ∧ w.frozen? ⟨B, 7, none⟩ = false ∧ w.frozen? ⟨B, 8, none⟩ = false := by
  refine ⟨⟨?_, ?_, ?_, ?_, ?_, ?_, ?_, ?_, ?_⟩, ?_, ?_, ?_, ?_, ?_, ?_, ?_, ?_, ?_⟩
  all_goals first | (rw [cell_of_row _ _ _ _ _ (0, 0) h]; rfl) | simp [World.frozen?, h]
abbrev zero9 : Array Value := #[.int .i64 0, .string ⟨#[]⟩, .int .i64 0, .int .i64 0, .int .i64 0, .slice none 0 0, .slice none 0 0, .int .i64 0, .int .i64 0]
def TCopy (h : Nd) (ps : To) : Prop := ∀ (w : World) (R : Nat → Prop) (o1 : Option Addr) (l1 c1 : Nat) (o2 : Option Addr) (l2 c2 : Nat), SlcIn R w o1 l1 h.tp → TSlc R w o2 l2 ps → h.tp.size ≤ 1000000 → allT (fun h => h.tp.size ≤ 1000000) ps → ps.size ≤ 1000000 →
  Calls Tryd.prog 51 #[tmv h o1 l1 c1 o2 l2 c2] w fun e w' => ∃ p1 d1 p2 d2, e = .returned (tmv h p1 l1 d1 p2 l2 d2) ∧ SlcIn (fun b => w.heap.size ≤ b) w' p1 l1 h.tp ∧ TSlc (fun b => w.heap.size ≤ b) w' p2 l2 ps ∧ Quiet0 w w'
set_option maxRecDepth 100000 in
set_option maxHeartbeats 4000000 in
theorem copyT_any (h : Nd) (ps : To) : TCopy h ps := by
  refine To.ind' (T := TCopy) ?_ h ps
  intro h ps ih w R o1 l1 c1 o2 l2 c2 hs1 hs htz hats hsz
  have HS := Lib.hid hs
  have IH := Lib.hid ih
  have HL := Lib.hid hs.1
  have HA := Lib.hid hats
  have hmx := hs.2.1
  have hll := To.length_le ps
  rw [← hs.1] at hll
  unfold maxLen at hmx
  obtain ⟨W0, hW0⟩ : ∃ W0, W0 = (w.alloc (.cells (cells9 h o1 l1 c1 o2 l2 c2) 30)).alloc (.cells zero9 30) := ⟨_, rfl⟩
  have HQ0 : Hid (Quiet0 w W0) := by rw [hW0]; exact (Quiet0.alloc _ _).trans (Quiet0.alloc _ _)
  have HCT := Lib.hid (copy_any h.tk h.tn h.tp W0 o1 l1 c1 (hs1.slc.stay HQ0.out) htz)
  have hz0 : w.heap.size + 2 ≤ W0.heap.size := by rw [hW0]; simp
  have HB0 : Hid (W0.heap[w.heap.size]? = some (.cells (cells9 h o1 l1 c1 o2 l2 c2) 30 (0, 0))) := by
    show _ = _; rw [hW0, Below.heap_alloc _ _ _ (by simp)]; exact heap_alloc_new w _
  have HB1 : Hid (W0.heap[w.heap.size + 1]? = some (.cells zero9 30 (0, 0))) := by
    show _ = _; rw [hW0]
    have := heap_alloc_new (w.alloc (.cells (cells9 h o1 l1 c1 o2 l2 c2) 30)) (.cells zero9 30)
    simpa using this
  clear hs ih hats hs1
  unfold tyv at HCT
  unfold tmv
  go_enter Tryd.func51, Tryd.ntmps51
  go_wp2_with fail
  change Calls _ _ _ ((w.alloc (.cells (cells9 h o1 l1 c1 o2 l2 c2) 30)).alloc (.cells zero9 30)) _
  rw [← hW0]
  refine HCT.out.mono ?_; rintro e w1 ⟨q1, e1, rfl, hsl1, hq1⟩
  have HSL1 := Lib.hid hsl1
  have hb0 := (hq1.block _ (by omega) (fun h => h)).trans HB0.out
  have hb1 := (hq1.block _ (by omega) (fun h => h)).trans HB1.out
  have HQ1 := Lib.hid hq1
  have hz1 : W0.heap.size ≤ w1.heap.size := hq1.size
  clear hW0 hq1 hsl1 HB0 HB1 HCT
  have HB0 := Lib.hid hb0
  have HB1 := Lib.hid hb1
  obtain ⟨⟨x0, x1, x2, x3, x4, x5, x6, x7, x8⟩, y0, y1, y2, y3, y4, y5, y6, y7, y8⟩ := block9 hb0
  clear hb0 hb1
  generalize hB : w.heap.size = B at *
  have HBE := Lib.hid hB
  clear hB
  go_wp2_with fail
  obtain ⟨W1, hW1⟩ : ∃ W1, W1 = putT w1 B (.int .i64 h.tk) (.int .i64 h.tn) (.slice q1 l1 e1) := ⟨_, rfl⟩
  change Code.wp _ _ _ _ (putT w1 B (.int .i64 h.tk) (.int .i64 h.tn) (.slice q1 l1 e1))
  have hz2 : W1.heap.size = w1.heap.size := by rw [hW1]; simp [putT, World.setCell]
  have HQW : Hid (Quiet0 w W1) := by
    rw [hW1]
    exact (HQ0.out.trans HQ1.out).trans' (putT_fr _ _ _ _ _) (fun i hi h => by have := HBE.out; omega)
  have HSLW : Hid (SlcIn (fun b => W0.heap.size ≤ b) W1 q1 l1 h.tp) := by
    rw [hW1]
    exact HSL1.out.fr (putT_fr _ _ _ _ _) (fun k _ hk => ⟨hk, fun h => by have hk' : W0.heap.size ≤ k := hk; omega⟩)
  replace HB0 : Hid (W1.heap[B]? = some (.cells (cells9 h q1 l1 e1 o2 l2 c2) 30 (0, 0))) := by
    rw [hW1]; exact putT_block HB0.out
  replace HB1 : Hid (W1.heap[B + 1]? = some (.cells zero9 30 (0, 0))) := by
    rw [hW1]
    exact ((putT_fr w1 B _ _ _).block _ (by omega) (fun h => by omega)).trans HB1.out
  rw [← hW1]
  clear hW1 x0 x1 x2 x3 x4 x5 x6 x7 x8 y0 y1 y2 y3 y4 y5 y6 y7 y8 HSL1 HQ1 HQ0
  go_loopw [3, 13] (fun v t wr => ∃ (i : Nat) (f : To) (xs : List Value) (vo : Option Addr) (vc : Nat), t = .int .i64 i ∧ i ≤ l2 ∧ v = .slice vo i vc ∧ f.length = i ∧ f.app (ps.drop i) = ps ∧ TmRow wr W1.heap.size (.slice vo i vc) f xs ∧ Quiet0 W1 wr) (fun _ t _ => l2 - (intOf t).toNat)
  case atStart => exact ⟨0, .nil, [], none, 0, rfl, Nat.zero_le _, rfl, rfl, by rw [To.drop_zero]; rfl, TmRow.nil _ _, Quiet0.refl _⟩
  case round =>
    obtain ⟨i, f, xs, vo, vc, rfl, hi, rfl, hfl, hap, hrow, hq⟩ := hrel
    have HF := Lib.hid hfl
    have HAP := Lib.hid hap
    have HR := Lib.hid hrow
    have HQ := Lib.hid hq
    clear hfl hap hrow hq
    by_cases hlt : i < l2
    · have hlt' : (i : Int) < l2 := by omega
      obtain ⟨b, off, hd, qs, u1, v1, t1, u2, v2, t2, rfl, hdr, hg, hRb, ⟨f0, f1, f2, f3, f4, f5, f6, f7, f8⟩, hsl, hts⟩ := (HS.out.stay (HQW.out.trans HQ.out)).nth hlt
      have hsq := To.size_get ps i hd qs hg
      have hna := allT_get ps i hd qs HA.out hg
      obtain ⟨w2, hw2⟩ : ∃ w2, w2 = wr.alloc (.cells (cells9 hd u1 v1 t1 u2 v2 t2) 30) := ⟨_, rfl⟩
      have hqw2 : Quiet0 wr w2 := by rw [hw2]; exact Quiet0.alloc _ _
      have HC := Lib.hid (IH.out i hd qs hg w2 R u1 v1 t1 u2 v2 t2 (hsl.stay hqw2) (hts.stay hqw2) hna.1 hna.2 (by omega))
      have HQA := Lib.hid hqw2
      have HD : Hid ((f.app (.cons hd qs .nil)).app (ps.drop (i + 1)) = ps) := by
        show _ = _
        conv => rhs; rw [← HAP.out, hdr]
        rw [To.app_assoc]; rfl
      unfold tmv at HC
      clear hdr hg hsl hts hsq hRb hna hqw2
      go_wp2_with fail
      change Calls _ _ _ (wr.alloc (.cells (cells9 hd u1 v1 t1 u2 v2 t2) 30)) _
      rw [← hw2]
      refine HC.out.mono ?_; rintro e w3 ⟨n1, m1, n2, m2, rfl, hk1, hk2, hq3⟩
      have HK1 := Lib.hid hk1
      have HK2 := Lib.hid hk2
      have HQ3 := Lib.hid (HQA.out.trans hq3)
      have HQ4 := Lib.hid hq3
      have HR1 := Lib.hid (HR.out.stay HQ3.out)
      clear hk1 hk2 hq3 hw2
      go_wp2_with (at_builtin; go_must (refine wpList_append_one w3 rfl (.tmp 17) (.tmp 20) 26 rfl 30 _ 9 112 elemTm (.slice vo i vc) i xs rfl (HF.out ▸ HR1.out.own) (cells9 hd n1 v1 m1 n2 v2 m2) rfl rfl ?c1 ?c2 ?c3 ?_))
      case c1 => simp [Value.oneCell']
      case c2 => unfold maxLen; omega
      case c3 => omega
      intro g2 c' w4 ho hf hg2
      have hlow : W1.heap.size ≤ w3.heap.size := Nat.le_trans HQ.out.size HQ3.out.size
      have hown : ∀ kk, (Value.slice vo i vc).ownBlock = some kk → kk < wr.heap.size := fun kk h => (HR.out.own.lt kk h).2
      have hw2s : wr.heap.size ≤ w2.heap.size := HQA.out.size
      have hk : ∀ kk, kk < w3.heap.size → w2.heap.size ≤ kk → ((W1.heap.size ≤ kk ∧ (Value.slice vo i vc).ownBlock ≠ some kk) ∧ ¬ False) := by
        intro kk _ hkk
        refine ⟨⟨by have := HQ.out.size; omega, fun h => ?_⟩, fun h => h⟩
        have := hown kk h; omega
      have HR2 : Hid (TmRow w4 W1.heap.size (.slice (some ⟨g2, 0, none⟩) (i + 1) c') (f.app (.cons hd qs .nil)) (xs ++ (cells9 hd n1 v1 m1 n2 v2 m2).toList)) := by
        show TmRow _ _ _ _ _
        have hf' := HF.out
        subst hf'
        exact TmRow.snoc HR1.out (HK1.out.fr (Fr.refl (fun _ => False) _) hk) (HK2.out.fr (Fr.refl (fun _ => False) _) hk) ho hf hg2 hlow
      have HQ2 : Hid (Quiet0 W1 w4) := by
        show Quiet0 _ _
        exact Fr.trans' (HQ.out.trans HQ3.out) hf (fun kk hkk h => absurd (HR.out.low kk h) (by omega))
      have HL2 : Hid ((f.app (.cons hd qs .nil)).length = i + 1) := by
        show _ = _
        rw [To.app_length, HF.out]; rfl
      clear ho hf hg2 hown hk
      go_wp2_with fail
      go_roundw
      case rel => exact ⟨i + 1, _, _, some ⟨g2, 0, none⟩, c', by go_num, by omega, rfl, HL2.out, HD.out, HR2.out, HQ2.out⟩
      case measure => simp [intOf]; omega
    · have hlt' : ¬ (i : Int) < l2 := by omega
      have hb1 := (HQ.out.block _ (by omega) (fun h => h)).trans HB1.out
      have hb0 := (HQ.out.block _ (by omega) (fun h => h)).trans HB0.out
      have hb0' := set_block (i := 6) (u := .slice vo i vc) hb0
      have hil : i = l2 := by omega
      subst hil
      obtain ⟨⟨x0, x1, x2, x3, x4, x5, x6, x7, x8⟩, y0, y1, y2, y3, y4, y5, y6, y7, y8⟩ := block9 hb0
      obtain ⟨⟨z0, z1, z2, z3, z4, z5, z6, z7, z8⟩, t0, t1, t2, t3, t4, t5, t6, t7, t8⟩ := block9 hb1
      have HB0 := Lib.hid hb0
      have HB1 := Lib.hid hb1
      clear hb0 hb1
      go_wp2_with fail
      have hb1' : (wr.setCell ⟨B, 6, none⟩ (.slice vo i vc)).heap[B + 1]? = some (.cells zero9 30 (0, 0)) := by
        rw [Below.heap_setCell _ _ _ _ (by show B + 1 ≠ B; omega)]; exact HB1.out
      have hff : Fr (fun k => k = B ∨ k = B + 1) wr (put9 (wr.setCell ⟨B, 6, none⟩ (.slice vo i vc)) (B + 1) (.int .i64 h.k) (.string h.nm) (.int .i64 h.n) (.int .i64 h.tk) (.int .i64 h.tn) (.slice q1 l1 e1) (.slice vo i vc) (.int .i64 h.fr) (.int .i64 h.en)) :=
        (Fr.setCell _ _ _ _ (.inl rfl)).trans ((put9_fr _ _ _ _ _ _ _ _ _ _ _).mono (fun k _ hk => .inr hk))
      have hbf := put9_block (a0 := .int .i64 h.k) (a1 := .string h.nm) (a2 := .int .i64 h.n) (a3 := .int .i64 h.tk) (a4 := .int .i64 h.tn) (a5 := .slice q1 l1 e1) (a6 := .slice vo i vc) (a7 := .int .i64 h.fr) (a8 := .int .i64 h.en) hb1'
      change bodyPost _ _ _ _ _ (put9 (wr.setCell ⟨B, 6, none⟩ (.slice vo i vc)) (B + 1) (.int .i64 h.k) (.string h.nm) (.int .i64 h.n) (.int .i64 h.tk) (.int .i64 h.tn) (.slice q1 l1 e1) (.slice vo i vc) (.int .i64 h.fr) (.int .i64 h.en))
      clear x0 x1 x2 x3 x4 x5 x6 x7 x8 y0 y1 y2 y3 y4 y5 y6 y7 y8 z0 z1 z2 z3 z4 z5 z6 z7 z8 t0 t1 t2 t3 t4 t5 t6 t7 t8 hb0' hb1'
      generalize (put9 (wr.setCell ⟨B, 6, none⟩ (.slice vo i vc)) (B + 1) (.int .i64 h.k) (.string h.nm) (.int .i64 h.n) (.int .i64 h.tk) (.int .i64 h.tn) (.slice q1 l1 e1) (.slice vo i vc) (.int .i64 h.fr) (.int .i64 h.en)) = wf at *
      obtain ⟨⟨x0, x1, x2, x3, x4, x5, x6, x7, x8⟩, _⟩ := block9 hbf
      have HFIN : Hid (SlcIn (fun b => w.heap.size ≤ b) wf q1 l1 h.tp ∧ TSlc (fun b => w.heap.size ≤ b) wf vo i ps ∧ Quiet0 w wf) := by
        have hz := HBE.out
        have hap := HAP.out
        rw [To.drop_end ps i (by have := HL.out; omega), To.app_nil] at hap
        have hqs := HQ.out.size
        refine ⟨(HSLW.out.stay HQ.out).fr hff (fun k _ hk => ?_), ?_, ?_⟩
        · have hk' : W0.heap.size ≤ k := hk
          exact ⟨by omega, by omega⟩
        · rw [← hap]
          refine (HR.out.slc HF.out.symm (by unfold maxLen; omega)).fr hff (fun k _ hk => ?_)
          have hk' : W1.heap.size ≤ k := hk
          exact ⟨by omega, by omega⟩
        · exact (HQW.out.trans HQ.out).trans' hff (fun i hi h => by omega)
      refine bodyPost_ret (by simp [results, Tryd.results51, go_sem, x0, x1, x2, x3, x4, x5, x6, x7, x8]; rfl) rfl ?_
      exact ⟨q1, e1, vo, ⟨vc, rfl⟩, HFIN.out⟩
end Go.Proofs.YtnfodiedalhlhaaDoor
end
section
/-
  Terms whose arrays of parts are blocks of their own, each used once (so they may be written in place). No condition.
-/
namespace Go.Proofs.YtnfodiedalhlhaaDoor
open Go.RowKit

abbrev TermB (w : World) (b : Nat) : Prop := ∃ cur, w.heap[b]? = some (.cells cur 30 (0, 0))
/-- terms in a row from an address on; the arrays of the j-th one's parts, and below, lie in D j -/
def TOI (R : Nat → Prop) (w : World) : (Nat → Nat → Prop) → Nat → Nat → To → Prop
  | _, _, _, .nil => True
  | D, b, off, .cons h ps r => (∃ o1 l1 c1 o2 l2 c2, Cells9 w b off h o1 l1 c1 o2 l2 c2 ∧ SlcIn R w o1 l1 h.tp ∧ l2 = ps.length ∧ l2 ≤ maxLen ∧
      (0 < l2 → ∃ b' E, o2 = some ⟨b', 0, none⟩ ∧ D 0 b' ∧ TermB w b' ∧ (∀ j k, E j k → D 0 k ∧ k ≠ b') ∧ (∀ i j k, E i k → E j k → i = j) ∧ TOI R w E b' 0 ps)) ∧ TOI R w (fun j => D (j + 1)) b (off + 9) r
/-- a slice's terms -/
def TO (R : Nat → Prop) (w : World) (D : Nat → Prop) (o : Option Addr) (len : Nat) (f : To) : Prop := len = f.length ∧ len ≤ maxLen ∧
  (0 < len → ∃ b E, o = some ⟨b, 0, none⟩ ∧ D b ∧ TermB w b ∧ (∀ j k, E j k → D k ∧ k ≠ b) ∧ (∀ i j k, E i k → E j k → i = j) ∧ TOI R w E b 0 f)
theorem TO.nil (R : Nat → Prop) (w : World) (D : Nat → Prop) (o : Option Addr) : TO R w D o 0 .nil := ⟨rfl, Nat.zero_le _, fun h => absurd h (Nat.lt_irrefl _)⟩
theorem toi_cons {R : Nat → Prop} {w : World} {D : Nat → Nat → Prop} {b off : Nat} {h : Nd} {ps r : To} : TOI R w D b off (.cons h ps r) ↔
    (∃ o1 l1 c1 o2 l2 c2, Cells9 w b off h o1 l1 c1 o2 l2 c2 ∧ SlcIn R w o1 l1 h.tp ∧ TO R w (D 0) o2 l2 ps) ∧ TOI R w (fun j => D (j + 1)) b (off + 9) r := Iff.rfl
theorem TermB.fr {S : Nat → Prop} {w w' : World} {b : Nat} (h : TermB w b) (hf : Fr S w w') (hs : ¬ S b) : TermB w' b := by
  obtain ⟨cur, hc⟩ := h
  exact ⟨cur, (hf.block _ (lt_of_block hc) hs).trans hc⟩
theorem TermB.set {w : World} {b i : Nat} {v : Value} (h : TermB w b) : TermB (w.setCell ⟨b, i, none⟩ v) b := by
  obtain ⟨cur, hc⟩ := h
  exact ⟨_, set_block hc⟩
theorem TOI.keep {R T S : Nat → Prop} {w w' : World} (hf : Fr S w w') (hR : ∀ k, k < w.heap.size → R k → T k ∧ ¬ S k) : ∀ (f : To) (D : Nat → Nat → Prop) (b off : Nat), TOI R w D b off f → (∀ c, off ≤ c → c < off + 9 * f.length → w'.cell? ⟨b, c, none⟩ = w.cell? ⟨b, c, none⟩) → (∀ j k, D j k → ¬ S k) → TOI T w' D b off f
  | .nil, _, _, _, _, _, _ => trivial
  | .cons h ps r, D, b, off, ht, hc, hD => by
    obtain ⟨⟨o1, l1, c1, o2, l2, c2, ⟨a0, a1, a2, a3, a4, a5, a6, a7, a8⟩, hs, h4, h4', h5⟩, h6⟩ := ht
    have hl : 9 ≤ 9 * (To.cons h ps r).length := by simp [To.length]; omega
    refine ⟨⟨o1, l1, c1, o2, l2, c2, ⟨?_, ?_, ?_, ?_, ?_, ?_, ?_, ?_, ?_⟩, hs.fr hf hR, h4, h4', fun hl => ?_⟩, TOI.keep hf hR r _ b (off + 9) h6 (fun c k1 k2 => hc c (by omega) (by simp only [To.length]; omega)) (fun j k hk => hD _ k hk)⟩
    · rw [hc off (by omega) (by omega)]; exact a0
    · rw [hc _ (by omega) (by omega)]; exact a1
    · rw [hc _ (by omega) (by omega)]; exact a2
    · rw [hc _ (by omega) (by omega)]; exact a3
    · rw [hc _ (by omega) (by omega)]; exact a4
    · rw [hc _ (by omega) (by omega)]; exact a5
    · rw [hc _ (by omega) (by omega)]; exact a6
    · rw [hc _ (by omega) (by omega)]; exact a7
    · rw [hc _ (by omega) (by omega)]; exact a8
    · obtain ⟨b', E, ho, hd, hb, hE, hdj, ha⟩ := h5 hl
      have hnb := hD 0 b' hd
      refine ⟨b', E, ho, hd, hb.fr hf hnb, hE, hdj, TOI.keep hf hR ps E b' 0 ha (fun c _ _ => ?_) (fun j k hk => hD 0 k (hE j k hk).1)⟩
      obtain ⟨cur, hcur⟩ := hb
      simp only [World.cell?, hf.block _ (lt_of_block hcur) hnb]
theorem TO.fr {R T S : Nat → Prop} {w w' : World} {D : Nat → Prop} {o : Option Addr} {len : Nat} {f : To} (h : TO R w D o len f) (hf : Fr S w w') (hR : ∀ k, k < w.heap.size → R k → T k ∧ ¬ S k) (hD : ∀ k, D k → ¬ S k) : TO T w' D o len f := by
  refine ⟨h.1, h.2.1, fun h0 => ?_⟩
  obtain ⟨b, E, ho, hd, hb, hE, hdj, ha⟩ := h.2.2 h0
  refine ⟨b, E, ho, hd, hb.fr hf (hD b hd), hE, hdj, TOI.keep hf hR f E b 0 ha (fun c _ _ => ?_) (fun j k hk => hD k (hE j k hk).1)⟩
  obtain ⟨cur, hcur⟩ := hb
  simp only [World.cell?, hf.block _ (lt_of_block hcur) (hD b hd)]
theorem TO.stay {R : Nat → Prop} {w w' : World} {D : Nat → Prop} {o : Option Addr} {len : Nat} {f : To} (h : TO R w D o len f) (hq : Quiet0 w w') : TO R w' D o len f := h.fr hq (fun _ _ hk => ⟨hk, fun h => h⟩) (fun _ _ h => h)
theorem TO.mono {R T : Nat → Prop} {w : World} {D D' : Nat → Prop} {o : Option Addr} {len : Nat} {f : To} (h : TO R w D o len f) (hR : ∀ k, k < w.heap.size → R k → T k) (hD : ∀ k, k < w.heap.size → D k → D' k) : TO T w (fun k => D' k ∧ k < w.heap.size) o len f := by
  have key : ∀ (f : To) (E : Nat → Nat → Prop) (b off : Nat), TOI R w E b off f → TOI T w (fun j k => E j k ∧ k < w.heap.size) b off f := by
    intro f
    induction f with
    | nil => intro _ _ _ _; trivial
    | cons h ps r ihp ihr =>
      intro E b off ht
      obtain ⟨⟨o1, l1, c1, o2, l2, c2, hc, hs, h4, h4', h5⟩, h6⟩ := ht
      refine ⟨⟨o1, l1, c1, o2, l2, c2, hc, hs.mono hR, h4, h4', fun hl => ?_⟩, ihr _ _ _ h6⟩
      obtain ⟨b', F, ho, hd, hb, hF, hdj, ha⟩ := h5 hl
      obtain ⟨cur, hcur⟩ := hb
      exact ⟨b', _, ho, ⟨hd, lt_of_block hcur⟩, ⟨cur, hcur⟩, fun j k hk => ⟨⟨(hF j k hk.1).1, hk.2⟩, (hF j k hk.1).2⟩, fun i j k h1 h2 => hdj i j k h1.1 h2.1, ihp F b' 0 ha⟩
  refine ⟨h.1, h.2.1, fun h0 => ?_⟩
  obtain ⟨b, E, ho, hd, hb, hE, hdj, ha⟩ := h.2.2 h0
  obtain ⟨cur, hcur⟩ := hb
  exact ⟨b, _, ho, ⟨hD _ (lt_of_block hcur) hd, lt_of_block hcur⟩, ⟨cur, hcur⟩, fun j k hk => ⟨⟨hD k hk.2 (hE j k hk.1).1, hk.2⟩, (hE j k hk.1).2⟩, fun i j k h1 h2 => hdj i j k h1.1 h2.1, key f E b 0 ha⟩
theorem TO.weak {R : Nat → Prop} {w : World} {D D' : Nat → Prop} {o : Option Addr} {len : Nat} {f : To} (h : TO R w D o len f) (hD : ∀ k, D k → D' k) : TO R w D' o len f := by
  refine ⟨h.1, h.2.1, fun h0 => ?_⟩
  obtain ⟨b, E, ho, hd, hb, hE, hdj, ha⟩ := h.2.2 h0
  exact ⟨b, E, ho, hD _ hd, hb, fun j k hk => ⟨hD _ (hE j k hk).1, (hE j k hk).2⟩, hdj, ha⟩
theorem TOI.tin {R : Nat → Prop} {w : World} {T : Nat → Prop} (hR : ∀ k, k < w.heap.size → R k → T k) : ∀ (f : To) (D : Nat → Nat → Prop) (b off : Nat), T b → (∀ j k, D j k → T k) → TOI R w D b off f → TIn T w b off f
  | .nil, _, _, _, _, _, _ => trivial
  | .cons h ps r, D, b, off, hb, hD, ht => by
    obtain ⟨⟨o1, l1, c1, o2, l2, c2, hc, hs, h4, h4', h5⟩, h6⟩ := ht
    refine ⟨hb, ⟨o1, l1, c1, o2, l2, c2, hc, hs.mono hR, h4, h4', fun hl => ?_⟩, TOI.tin hR r _ b (off + 9) hb (fun j k hk => hD _ k hk) h6⟩
    obtain ⟨b', E, ho, hd, _, hE, _, ha⟩ := h5 hl
    exact ⟨b', 0, ho, TOI.tin hR ps E b' 0 (hD 0 _ hd) (fun j k hk => hD 0 k (hE j k hk).1) ha⟩
theorem TO.tslc {R : Nat → Prop} {w : World} {D T : Nat → Prop} {o : Option Addr} {len : Nat} {f : To} (h : TO R w D o len f) (hR : ∀ k, k < w.heap.size → R k → T k) (hD : ∀ k, D k → T k) : TSlc T w o len f := by
  refine ⟨h.1, h.2.1, fun h0 => ?_⟩
  obtain ⟨b, E, ho, hd, _, hE, _, ha⟩ := h.2.2 h0
  exact ⟨b, 0, ho, TOI.tin hR f E b 0 (hD b hd) (fun j k hk => hD k (hE j k hk).1) ha⟩
/-- the parts that are done, one more, the rest -/
theorem TOI.nth {R : Nat → Prop} {w : World} : ∀ (p : To) (D : Nat → Nat → Prop) (b off : Nat) (h : Nd) (ps r : To), TOI R w D b off (p.app (.cons h ps r)) →
    ∃ o1 l1 c1 o2 l2 c2, Cells9 w b (off + p.length * 9) h o1 l1 c1 o2 l2 c2 ∧ SlcIn R w o1 l1 h.tp ∧ TO R w (D p.length) o2 l2 ps
  | .nil, D, b, off, h, ps, r, ht => by
    obtain ⟨⟨o1, l1, c1, o2, l2, c2, hc, hs, hto⟩, _⟩ := toi_cons.1 ht
    exact ⟨o1, l1, c1, o2, l2, c2, by simpa [To.length] using hc, hs, hto⟩
  | .cons h' ps' p, D, b, off, h, ps, r, ht => by
    obtain ⟨_, h6⟩ := toi_cons.1 ht
    obtain ⟨o1, l1, c1, o2, l2, c2, hc, hs, hto⟩ := TOI.nth p _ b (off + 9) h ps r h6
    refine ⟨o1, l1, c1, o2, l2, c2, ?_, hs, hto⟩
    rw [show off + (To.cons h' ps' p).length * 9 = off + 9 + p.length * 9 from by simp [To.length]; omega]; exact hc
/-- one of them written anew, in place -/
theorem TOI.put {R S : Nat → Prop} {w w' : World} (hf : Fr S w w') (hR : ∀ k, k < w.heap.size → R k → ¬ S k) : ∀ (p : To) (D : Nat → Nat → Prop) (b off : Nat) (h h' : Nd) (ps ps' r : To), TOI R w D b off (p.app (.cons h ps r)) →
    (∀ c, off ≤ c → (c < off + p.length * 9 ∨ off + p.length * 9 + 9 ≤ c) → w'.cell? ⟨b, c, none⟩ = w.cell? ⟨b, c, none⟩) → (∀ j k, D j k → j ≠ p.length → ¬ S k) →
    (∃ o1 l1 c1 o2 l2 c2, Cells9 w' b (off + p.length * 9) h' o1 l1 c1 o2 l2 c2 ∧ SlcIn R w' o1 l1 h'.tp ∧ TO R w' (D p.length) o2 l2 ps') → TOI R w' D b off (p.app (.cons h' ps' r))
  | .nil, D, b, off, h, h', ps, ps', r, ht, hc, hD, hn => by
    obtain ⟨_, h6⟩ := toi_cons.1 ht
    refine toi_cons.2 ⟨by simpa [To.length] using hn, TOI.keep hf (fun k h1 h2 => ⟨h2, hR k h1 h2⟩) r _ b (off + 9) h6 (fun c k1 _ => hc c (by omega) (.inr (by simp [To.length]; omega))) (fun j k hk => hD _ k hk (by simp [To.length]))⟩
  | .cons g qs p, D, b, off, h, h', ps, ps', r, ht, hc, hD, hn => by
    obtain ⟨⟨o1, l1, c1, o2, l2, c2, ⟨a0, a1, a2, a3, a4, a5, a6, a7, a8⟩, hs, hto⟩, h6⟩ := toi_cons.1 ht
    have hlen : (To.cons g qs p).length = p.length + 1 := rfl
    refine toi_cons.2 ⟨⟨o1, l1, c1, o2, l2, c2, ⟨?_, ?_, ?_, ?_, ?_, ?_, ?_, ?_, ?_⟩, hs.fr hf (fun k h1 h2 => ⟨h2, hR k h1 h2⟩), hto.fr hf (fun k h1 h2 => ⟨h2, hR k h1 h2⟩) (fun k hk => hD 0 k hk (by simp [To.length]))⟩, TOI.put hf hR p _ b (off + 9) h h' ps ps' r h6 (fun c k1 k2 => hc c (by omega) (by rw [hlen]; omega)) (fun j k hk hj => hD _ k hk (by rw [hlen]; omega)) ?_⟩
    · rw [hc off (by omega) (.inl (by rw [hlen]; omega))]; exact a0
    · rw [hc _ (by omega) (.inl (by rw [hlen]; omega))]; exact a1
    · rw [hc _ (by omega) (.inl (by rw [hlen]; omega))]; exact a2
    · rw [hc _ (by omega) (.inl (by rw [hlen]; omega))]; exact a3
    · rw [hc _ (by omega) (.inl (by rw [hlen]; omega))]; exact a4
    · rw [hc _ (by omega) (.inl (by rw [hlen]; omega))]; exact a5
    · rw [hc _ (by omega) (.inl (by rw [hlen]; omega))]; exact a6
    · rw [hc _ (by omega) (.inl (by rw [hlen]; omega))]; exact a7
    · rw [hc _ (by omega) (.inl (by rw [hlen]; omega))]; exact a8
    · rw [hlen, show off + (p.length + 1) * 9 = off + 9 + p.length * 9 from by omega] at hn; exact hn
/-- cells that are terms, the arrays of the j-th one's parts in E j -/
def RowO (R : Nat → Prop) (w : World) : (Nat → Nat → Prop) → List Value → To → Prop
  | _, xs, .nil => xs = []
  | E, xs, .cons h ps r => ∃ o1 l1 c1 o2 l2 c2 ys, xs = (cells9 h o1 l1 c1 o2 l2 c2).toList ++ ys ∧ SlcIn R w o1 l1 h.tp ∧ TO R w (E 0) o2 l2 ps ∧ RowO R w (fun j => E (j + 1)) ys r
theorem RowO.fr {R T S : Nat → Prop} {w w' : World} (hf : Fr S w w') (hR : ∀ k, k < w.heap.size → R k → T k ∧ ¬ S k) : ∀ (f : To) (E : Nat → Nat → Prop) (xs : List Value), RowO R w E xs f → (∀ j k, E j k → ¬ S k) → RowO T w' E xs f
  | .nil, _, _, h, _ => h
  | .cons h ps r, E, xs, ht, hE => by
    obtain ⟨o1, l1, c1, o2, l2, c2, ys, rfl, hs, ht, hr⟩ := ht
    exact ⟨o1, l1, c1, o2, l2, c2, ys, rfl, hs.fr hf hR, ht.fr hf hR (fun k hk => hE 0 k hk), RowO.fr hf hR r _ ys hr (fun j k hk => hE _ k hk)⟩
theorem RowO.snoc {R : Nat → Prop} {w : World} {h : Nd} {ps : To} {o1 : Option Addr} {l1 c1 : Nat} {o2 : Option Addr} {l2 c2 : Nat} {Dn : Nat → Prop} (hs : SlcIn R w o1 l1 h.tp) (ht : TO R w Dn o2 l2 ps) : ∀ (f : To) (E : Nat → Nat → Prop) (xs : List Value), RowO R w E xs f →
    RowO R w (fun j k => (j < f.length ∧ E j k) ∨ (j = f.length ∧ Dn k)) (xs ++ (cells9 h o1 l1 c1 o2 l2 c2).toList) (f.app (.cons h ps .nil))
  | .nil, E, xs, e => by
    cases e
    exact ⟨o1, l1, c1, o2, l2, c2, [], by simp, hs, ht.weak (fun k hk => .inr ⟨rfl, hk⟩), rfl⟩
  | .cons h' ps' r, E, xs, e => by
    obtain ⟨p1, m1, d1, p2, m2, d2, ys, rfl, hs', ht', hr⟩ := e
    have ih := RowO.snoc (h := h) (c1 := c1) (c2 := c2) hs ht r _ ys hr
    refine ⟨p1, m1, d1, p2, m2, d2, _, by rw [List.append_assoc], hs', ht'.weak (fun k hk => .inl ⟨by simp [To.length], hk⟩), ?_⟩
    have he : (fun j k => ((j + 1 < (To.cons h' ps' r).length ∧ E (j + 1) k) ∨ (j + 1 = (To.cons h' ps' r).length ∧ Dn k))) = (fun j k => (j < r.length ∧ E (j + 1) k) ∨ (j = r.length ∧ Dn k)) := by
      funext j k; simp [To.length]
    show RowO R w (fun j k => ((j + 1 < (To.cons h' ps' r).length ∧ E (j + 1) k) ∨ (j + 1 = (To.cons h' ps' r).length ∧ Dn k))) _ _
    rw [he]; exact ih
theorem RowO.at {R : Nat → Prop} {w : World} {g : Nat} : ∀ (f : To) (E : Nat → Nat → Prop) (xs : List Value) (off : Nat), RowO R w E xs f → (∀ j u, xs[j]? = some u → w.cell? ⟨g, off + j, none⟩ = some u) → TOI R w E g off f
  | .nil, _, _, _, _, _ => trivial
  | .cons h ps r, E, xs, off, e, hc => by
    obtain ⟨o1, l1, c1, o2, l2, c2, ys, rfl, hs, ht, hr⟩ := e
    refine toi_cons.2 ⟨⟨o1, l1, c1, o2, l2, c2, ⟨hc 0 _ rfl, hc 1 _ rfl, hc 2 _ rfl, hc 3 _ rfl, hc 4 _ rfl, hc 5 _ rfl, hc 6 _ rfl, hc 7 _ rfl, hc 8 _ rfl⟩, hs, ht⟩, RowO.at r _ ys (off + 9) hr ?_⟩
    intro j u hj
    have := hc (j + 9) u (by simpa using hj)
    rw [← this]; congr 2; omega
/-- a row of terms of the call's own: T: where types lie; the arrays of parts lie from B on, none in T -/
structure TmRowO (T : Nat → Prop) (w : World) (B : Nat) (v : Value) (f : To) (xs : List Value) (E : Nat → Nat → Prop) : Prop where
  own : w.ownsRow 0 30 9 v f.length xs
  low : ∀ k, v.ownBlock = some k → B ≤ k ∧ ¬ T k
  cells : RowO T w E xs f
  sep : ∀ j k, E j k → B ≤ k ∧ k < w.heap.size ∧ v.ownBlock ≠ some k ∧ ¬ T k
  one : ∀ i j k, E i k → E j k → i = j
  old : ∀ k, T k → k < w.heap.size
theorem TmRowO.nil {T : Nat → Prop} (w : World) (B : Nat) (hT : ∀ k, T k → k < w.heap.size) : TmRowO T w B (.slice none 0 0) .nil [] (fun _ _ => False) :=
  ⟨World.ownsRow_nil _ _ _ _, fun k hk => (by cases hk), rfl, fun _ _ h => h.elim, fun _ _ _ h => h.elim, hT⟩
theorem TmRowO.fr {T S : Nat → Prop} {w w' : World} {B : Nat} {v : Value} {f : To} {xs : List Value} {E : Nat → Nat → Prop} (h : TmRowO T w B v f xs E) (hf : Fr S w w') (hS : ∀ k, S k → ¬ T k ∧ (∀ j, ¬ E j k) ∧ v.ownBlock ≠ some k) : TmRowO T w' B v f xs E := by
  have hz := hf.size
  refine ⟨ownsRow_fr h.own hf (fun k hk hs => (hS k hs).2.2 hk), h.low, RowO.fr hf (fun k _ hk => ⟨hk, fun hs => (hS k hs).1 hk⟩) f E xs h.cells (fun j k hk hs => (hS k hs).2.1 j hk), fun j k hk => ?_, h.one, fun k hk => ?_⟩
  · have := h.sep j k hk; exact ⟨this.1, by omega, this.2.2⟩
  · have := h.old k hk; omega
theorem TmRowO.stay {T : Nat → Prop} {w w' : World} {B : Nat} {v : Value} {f : To} {xs : List Value} {E : Nat → Nat → Prop} (h : TmRowO T w B v f xs E) (hf : Quiet0 w w') : TmRowO T w' B v f xs E := h.fr hf (fun _ hk => hk.elim)
/-- one more: its types may bring blocks of their own (Tn) -/
theorem TmRowO.snoc {T Tn Dn : Nat → Prop} {W W1 w1 : World} {B : Nat} {v : Value} {f : To} {xs : List Value} {E : Nat → Nat → Prop} {h : Nd} {ps : To} {o1 : Option Addr} {l1 c1 : Nat} {o2 : Option Addr} {l2 c2 g c : Nat} (hr : TmRowO T W B v f xs E) (hB : B ≤ W.heap.size)
    (hq : Quiet0 W W1) (hs : SlcIn (fun k => T k ∨ Tn k) W1 o1 l1 h.tp) (ht : TO (fun k => T k ∨ Tn k) W1 Dn o2 l2 ps)
    (hTn : ∀ k, Tn k → W.heap.size ≤ k ∧ k < W1.heap.size ∧ ¬ Dn k) (hDn : ∀ k, Dn k → W.heap.size ≤ k ∧ k < W1.heap.size)
    (ho : w1.ownsRow 0 30 9 (.slice (some ⟨g, 0, none⟩) (f.length + 1) c) (f.length + 1) (xs ++ (cells9 h o1 l1 c1 o2 l2 c2).toList)) (hf : Fr (fun k => v.ownBlock = some k) W1 w1) (hg : v.ownBlock = some g ∨ W1.heap.size ≤ g) :
    TmRowO (fun k => T k ∨ Tn k) w1 B (.slice (some ⟨g, 0, none⟩) (f.length + 1) c) (f.app (.cons h ps .nil)) (xs ++ (cells9 h o1 l1 c1 o2 l2 c2).toList) (fun j k => (j < f.length ∧ E j k) ∨ (j = f.length ∧ Dn k)) := by
  have hz := hq.size
  have hz1 := hf.size
  have hvl : ∀ k, v.ownBlock = some k → k < W.heap.size := fun k hk => (hr.own.lt k hk).2
  have hv : ∀ k, v.ownBlock = some k → ¬ (T k ∨ Tn k) := fun k hk hh => by
    rcases hh with h | h
    · exact (hr.low k hk).2 h
    · have := hvl k hk; have := hTn k h; omega
  refine ⟨by rw [To.app_length]; exact ho, ?_, ?_, ?_, ?_, ?_⟩
  · intro k hk
    simp [Value.ownBlock] at hk
    subst hk
    rcases hg with h | h
    · exact ⟨(hr.low g h).1, hv g h⟩
    · refine ⟨by omega, fun hh => ?_⟩
      rcases hh with h' | h'
      · have := hr.old g h'; omega
      · have := hTn g h'; omega
  · refine RowO.fr hf (fun k _ hk => ⟨hk, fun h => hv k h hk⟩) _ _ _ (RowO.snoc hs ht f E xs (RowO.fr hq (fun k _ hk => ⟨.inl hk, fun h => h⟩) f E xs hr.cells (fun _ _ _ h => h))) ?_
    rintro j k (⟨_, hk⟩ | ⟨_, hk⟩) h
    · exact (hr.sep j k hk).2.2.1 h
    · have := hvl k h; have := hDn k hk; omega
  · rintro j k (⟨_, hk⟩ | ⟨_, hk⟩)
    · have h1 := hr.sep j k hk
      refine ⟨h1.1, by omega, fun h => ?_, fun hh => ?_⟩
      · simp [Value.ownBlock] at h
        subst h
        rcases hg with h | h
        · exact h1.2.2.1 h
        · omega
      · rcases hh with h' | h'
        · exact h1.2.2.2 h'
        · have := hTn k h'; omega
    · have h1 := hDn k hk
      refine ⟨by omega, by omega, fun h => ?_, fun hh => ?_⟩
      · simp [Value.ownBlock] at h
        subst h
        rcases hg with h | h
        · have := hvl _ h; omega
        · omega
      · rcases hh with h' | h'
        · have := hr.old k h'; omega
        · exact (hTn k h').2.2 hk
  · rintro i j k (⟨hi, h1⟩ | ⟨hi, h1⟩) (⟨hj, h2⟩ | ⟨hj, h2⟩)
    · exact hr.one i j k h1 h2
    · have := hr.sep i k h1; have := hDn k h2; omega
    · have := hr.sep j k h2; have := hDn k h1; omega
    · omega
  · intro k hk
    rcases hk with h | h
    · have := hr.old k h; omega
    · have := hTn k h; omega
theorem TmRowO.to {T : Nat → Prop} {w : World} {B : Nat} {o : Option Addr} {len cap : Nat} {f : To} {xs : List Value} {E : Nat → Nat → Prop} (h : TmRowO T w B (.slice o len cap) f xs E) (hl : len = f.length) (hm : len ≤ maxLen) : TO T w (fun k => B ≤ k ∧ ¬ T k) o len f := by
  refine ⟨hl, hm, fun h0 => ?_⟩
  rcases h.own.2 with ⟨_, h2⟩ | ⟨g, cap', cur, he, _, hg, _⟩
  · omega
  · injection he with h1 h2 h3
    subst h1
    refine ⟨g, E, rfl, h.low g rfl, ⟨cur, hg⟩, fun j k hk => ⟨⟨(h.sep j k hk).1, (h.sep j k hk).2.2.2⟩, fun e => (h.sep j k hk).2.2.1 (by rw [e]; rfl)⟩, h.one, RowO.at f E xs 0 h.cells ?_⟩
    intro j u hj
    have := h.own.cells (g := g) rfl j u hj
    simpa [Addr.add_lit] using this
end Go.Proofs.YtnfodiedalhlhaaDoor
end
section
/-
  scope.walk: what the function that it is handed does; a name more where the order is drawn; a row of terms of the call's own. No condition.
-/
namespace Go.Proofs.YtnfodiedalhlhaaDoor
open Go.RowKit Go.Shelf
namespace Sc

theorem own_cap {w : World} {base : Nat} {e : TypeId} {size : Nat} {o : Option Addr} {n c : Nat} {xs : List Value} (h : w.ownsRow base e size (.slice o n c) n xs) : n ≤ c := by
  rcases h.2 with ⟨h1, h0⟩ | ⟨g, cap, cur, he, _, _, hc, _⟩
  · omega
  · injection he with _ _ h3; omega
theorem step_name {ops : Array Oper} {op : Oper} {a : Act} {K : Act → World → Prop} {Q : Exit → Act → World → Prop} {E : Prop} (W : World) (hg : op.guard = none) (s x : Operand)
    (hop : op.op = Op.call { callee := Callee.builtin Builtin.append, args := #[s, x], argTypes := #[40, 40] }) {T : Nat → Prop} {ao : Option Addr} {n : Nat} {e : List ByteArray} (hN : NmIn T W ao n e) (str : ByteArray) (H : Nat)
    (hs : a.eval s = .slice ao n n) (hx : a.eval x = .slice (some ⟨H, 0, none⟩) 1 1) (hH : W.heap[H]? = some (.cells #[.string str] 9 (0, 0))) (b1 : n + 1 ≤ 1000000) {Wb : World} (hqb : Quiet0 Wb W)
    (hK : ∀ g c w', NmIn (fun k => Wb.heap.size ≤ k) w' (some ⟨g, 0, none⟩) (n + 1) (str :: e) → n + 1 ≤ c → Quiet0 W w' → K (a.put op.dst (.slice (some ⟨g, 0, none⟩) (n + 1) c)) w') :
    if Region.wanted op (yielded ops a.tmps) = true then Oper.wp Tryd.prog op a W K Q else E := by
  obtain ⟨i0, hi, hz0, hz1, hz2⟩ := info_parts elemStr.info
  refine step_append_grows hg s x 40 hop 9 i0 (.string ⟨#[]⟩) 1 16 elemStr.under hi hz0 hz1 hz2 elemStr.cells elemStr.pos ao n n (e.reverse.map Value.string) hs
    (fun h => by subst h; exact ⟨hN.none, hN.none⟩) (by simp [hN.1]) (names_cells hN) ⟨H, 0, none⟩ 1 1 [.string str] hx rfl ?_ (by simp [Value.oneCell']) (by omega) (by unfold maxLen; omega) (by omega) ?_
  · intro j u hu
    rw [Addr.add_lit, cell_of_row W H (0 + j) #[.string str] 9 (0, 0) hH]
    simpa using hu
  · intro v' w' hown hgr
    obtain ⟨g, c, rfl, hb, _⟩ := hown.form (by omega)
    exact hK g c w' (NmIn.of_own hown (by rw [hN.1]) (by unfold maxLen; omega) (Nat.le_trans hqb.size hb)) (own_cap hown) (Fr.grown hgr (fun k hk => by cases hk))
theorem rowO_snoc {T Dn S : Nat → Prop} {W W1 w1 : World} {B : Nat} {v : Value} {f : To} {xs : List Value} {E : Nat → Nat → Prop} {h : Nd} {ps : To} {o1 : Option Addr} {l1 c1 : Nat} {o2 : Option Addr} {l2 c2 g c : Nat} (hr : TmRowO T W B v f xs E) (hB : B ≤ W.heap.size)
    (hf0 : Fr S W W1) (hS : ∀ k, S k → ¬ T k ∧ (∀ j, ¬ E j k) ∧ v.ownBlock ≠ some k) (hs : SlcIn T W1 o1 l1 h.tp) (ht : TO T W1 Dn o2 l2 ps) (hDn : ∀ k, Dn k → W.heap.size ≤ k ∧ k < W1.heap.size)
    (ho : w1.ownsRow 0 30 9 (.slice (some ⟨g, 0, none⟩) (f.length + 1) c) (f.length + 1) (xs ++ (cells9 h o1 l1 c1 o2 l2 c2).toList)) (hf : Fr (fun k => v.ownBlock = some k) W1 w1) (hg : v.ownBlock = some g ∨ W1.heap.size ≤ g) :
    TmRowO T w1 B (.slice (some ⟨g, 0, none⟩) (f.length + 1) c) (f.app (.cons h ps .nil)) (xs ++ (cells9 h o1 l1 c1 o2 l2 c2).toList) (fun j k => (j < f.length ∧ E j k) ∨ (j = f.length ∧ Dn k)) := by
  have hz := hf0.size
  have hz1 := hf.size
  have hvl : ∀ k, v.ownBlock = some k → k < W.heap.size := fun k hk => (hr.own.lt k hk).2
  have hv : ∀ k, v.ownBlock = some k → ¬ T k := fun k hk hh => (hr.low k hk).2 hh
  have hTn : ∀ k, T k → ¬ Dn k := fun k hk hd => by have := hr.old k hk; have := hDn k hd; omega
  refine ⟨by rw [To.app_length]; exact ho, ?_, ?_, ?_, ?_, ?_⟩
  · intro k hk
    simp [Value.ownBlock] at hk
    subst hk
    rcases hg with h | h
    · exact ⟨(hr.low g h).1, hv g h⟩
    · exact ⟨by omega, fun hh => by have := hr.old g hh; omega⟩
  · refine RowO.fr hf (fun k _ hk => ⟨hk, fun h => hv k h hk⟩) _ _ _ (RowO.snoc hs ht f E xs (RowO.fr hf0 (fun k _ hk => ⟨hk, fun h => (hS k h).1 hk⟩) f E xs hr.cells (fun j k hk h => (hS k h).2.1 j hk))) ?_
    rintro j k (⟨_, hk⟩ | ⟨_, hk⟩) h
    · exact (hr.sep j k hk).2.2.1 h
    · have := hvl k h; have := hDn k hk; omega
  · rintro j k (⟨_, hk⟩ | ⟨_, hk⟩)
    · have h1 := hr.sep j k hk
      refine ⟨h1.1, by omega, fun h => ?_, h1.2.2.2⟩
      simp [Value.ownBlock] at h
      subst h
      rcases hg with h | h
      · exact h1.2.2.1 h
      · omega
    · have h1 := hDn k hk
      refine ⟨by omega, by omega, fun h => ?_, fun hh => hTn k hh hk⟩
      simp [Value.ownBlock] at h
      subst h
      rcases hg with h | h
      · have := hvl _ h; omega
      · omega
  · rintro i j k (⟨hi, h1⟩ | ⟨hi, h1⟩) (⟨hj, h2⟩ | ⟨hj, h2⟩)
    · exact hr.one i j k h1 h2
    · have := hr.sep i k h1; have := hDn k h2; omega
    · have := hr.sep j k h2; have := hDn k h1; omega
    · omega
  · intro k hk
    have := hr.old k hk; omega
theorem rowO_to {T : Nat → Prop} {w : World} {B : Nat} {o : Option Addr} {len cap : Nat} {f : To} {xs : List Value} {E : Nat → Nat → Prop} (h : TmRowO T w B (.slice o len cap) f xs E) (hl : len = f.length) (hm : len ≤ maxLen) : TO T w (fun k => (Value.slice o len cap).ownBlock = some k ∨ ∃ j, E j k) o len f := by
  refine ⟨hl, hm, fun h0 => ?_⟩
  rcases h.own.2 with ⟨_, h2⟩ | ⟨g, cap', cur, he, _, hg, _⟩
  · omega
  · injection he with h1 h2 h3
    subst h1
    refine ⟨g, E, rfl, .inl rfl, ⟨cur, hg⟩, fun j k hk => ⟨.inr ⟨j, hk⟩, fun e => (h.sep j k hk).2.2.1 (by rw [e]; rfl)⟩, h.one, RowO.at f E xs 0 h.cells ?_⟩
    intro j u hj
    have := h.own.cells (g := g) rfl j u hj
    simpa [Addr.add_lit] using this
section
variable {σ : Type}
/-- what the function does: b more may come, the state is s; D: blocks that are its own; R: where types lie -/
def DoQ (stp : σ → Nd → List ByteArray → σ) (out : Nd → List ByteArray → Nd) (J : Nat → σ → (Nat → Prop) → World → Prop) (b : Nat) (s : σ) (D : Nat → Prop) (e : List ByteArray) (h : Nd) (o1 : Option Addr) (l1 c1 : Nat) (o2 : Option Addr) (l2 c2 : Nat) (A : World) (x : Ending) (W' : World) : Prop :=
  x = .returned (tmv (out h e) o1 l1 c1 o2 l2 c2) ∧ ∃ D', J b (stp s h e) D' W' ∧ Fr D A W' ∧ ∀ k, D' k → D k ∨ A.heap.size ≤ k
structure DoW (F : Nat) (lb : Array Value) (R : Nat → Prop) (L0 : Nat) (stp : σ → Nd → List ByteArray → σ) (out : Nd → List ByteArray → Nd) (J : Nat → σ → (Nat → Prop) → World → Prop) : Prop where
  own : ∀ b s D A, J b s D A → ∀ k, D k → k < A.heap.size ∧ ¬ R k
  big : ∀ b s D A, J b s D A → L0 ≤ A.heap.size
  weak : ∀ b b' s D A, J b s D A → b' ≤ b → J b' s D A
  stay : ∀ b s D A B, J b s D A → Fr (fun k => L0 ≤ k ∧ ¬ D k) A B → J b s D B
  call : ∀ (b : Nat) (s : σ) (D : Nat → Prop) (A : World) (T : Nat → Prop) (e : List ByteArray) (h : Nd) (o1 : Option Addr) (l1 c1 : Nat) (o2 : Option Addr) (l2 c2 : Nat) (no : Option Addr) (n c : Nat), J (b + 1) s D A → NmIn T A no n e → n ≤ 300000 → SlcIn R A o1 l1 h.tp → h.k = 1 →
    Calls Tryd.prog F (#[tmv h o1 l1 c1 o2 l2 c2, .slice no n c] ++ lb) A (DoQ stp out J b s D e h o1 l1 c1 o2 l2 c2 A)
def WkQ (R : Nat → Prop) (stp : σ → Nd → List ByteArray → σ) (out : Nd → List ByteArray → Nd) (J : Nat → σ → (Nat → Prop) → World → Prop) (b : Nat) (s : σ) (D : Nat → Prop) (e : List ByteArray) (h : Nd) (ps : To) (o1 : Option Addr) (l1 c1 l2 : Nat) (W : World) (x : Ending) (W' : World) : Prop :=
  ∃ (o2 : Option Addr) (c2 : Nat) (D' E : Nat → Prop), x = .returned (tmv (wk1 stp out s e h ps).2.1 o1 l1 c1 o2 l2 c2) ∧ J b (wk1 stp out s e h ps).1 D' W' ∧ TO R W' E o2 l2 (wk1 stp out s e h ps).2.2 ∧ (∀ k, E k → W.heap.size ≤ k ∧ k < W'.heap.size ∧ ¬ D' k) ∧ Fr D W W' ∧ ∀ k, D' k → D k ∨ W.heap.size ≤ k
def TWk (F : Nat) (lb : Array Value) (R : Nat → Prop) (stp : σ → Nd → List ByteArray → σ) (out : Nd → List ByteArray → Nd) (J : Nat → σ → (Nat → Prop) → World → Prop) (h : Nd) (ps : To) : Prop :=
  ∀ (b : Nat) (s : σ) (D : Nat → Prop) (W : World) (T : Nat → Prop) (e : List ByteArray) (o1 : Option Addr) (l1 c1 : Nat) (o2 : Option Addr) (l2 c2 : Nat) (no : Option Addr) (n c : Nat), J (b + (ps.size + 1)) s D W → NmIn T W no n e → n ≤ c → (∀ k, T k → ¬ D k) → n + ps.size ≤ 200000 → SlcIn R W o1 l1 h.tp → TSlc R W o2 l2 ps → varOk h ps → allV ps →
    Calls Tryd.prog 71 #[tmv h o1 l1 c1 o2 l2 c2, .slice no n c, .func (.func F) #[] lb] W (WkQ R stp out J b s D e h ps o1 l1 c1 l2 W)
theorem wk1_var (stp : σ → Nd → List ByteArray → σ) (out : Nd → List ByteArray → Nd) (s : σ) (e : List ByteArray) (h : Nd) (ps : To) (hk : h.k = 1) : wk1 stp out s e h ps = (stp s h e, out h e, ps) := by unfold wk1; rw [if_pos hk]
theorem wk1_no (stp : σ → Nd → List ByteArray → σ) (out : Nd → List ByteArray → Nd) (s : σ) (e : List ByteArray) (h : Nd) (ps : To) (hk : ¬ h.k = 1) : wk1 stp out s e h ps = ((wk stp out h.k h.nm 0 s e ps).1, h, (wk stp out h.k h.nm 0 s e ps).2) := by unfold wk1; rw [if_neg hk]
theorem wk1_tp (stp : σ → Nd → List ByteArray → σ) (out : Nd → List ByteArray → Nd) (hout : ∀ h e, (out h e).tp = h.tp) (s : σ) (e : List ByteArray) (h : Nd) (ps : To) : (wk1 stp out s e h ps).2.1.tp = h.tp := by
  unfold wk1; split
  · exact hout _ _
  · rfl
theorem to_app_assoc' (f : To) (h : Nd) (ps r : To) : f.app (.cons h ps r) = (f.app (.cons h ps .nil)).app r := by rw [To.app_assoc]; rfl
end
end Sc
end Go.Proofs.YtnfodiedalhlhaaDoor
end
