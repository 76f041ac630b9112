/-
  Texts laid together (App, TeListN, ScList, TySame2, TePair, ScBare): laws and walks, with their conditions in their statements.
-/
import Derived.Test.YtnfodiedalhlhaaDoorRN5
section
namespace Go.Proofs.YtnfodiedalhlhaaDoor
open Go.RowKit
section
variable {P : Program}
theorem run_append_row (w : World) (t ty e : TypeId) (z : Value) (size bytes : Nat) (he : Elem P t e z size bytes) (v : Value) (n : Nat) (xs : List Value) (hown : w.ownsRow 0 e size v n xs)
    (o : Option Addr) (m c : Nat) (news : List Value) (hl : news.length = m * size) (hnews : ∀ j u, news[j]? = some u → ∃ a, o = some a ∧ w.cell? (a.add j) = some u) (h1 : ∀ u ∈ news, u.oneCell' = true) (b1 : n + m ≤ maxLen) (b2 : (n + m) * bytes ≤ 140737488355328) :
    ∃ o' c' w', (Builtin.append_ #[t, t] ty #[v, .slice o m c]).run P w = .ok (.slice o' (n + m) c') w' ∧ w'.ownsRow 0 e size (.slice o' (n + m) c') (n + m) (xs ++ news) ∧ Fr (fun k => v.ownBlock = some k) w w' ∧ ((Value.slice o' (n + m) c').ownBlock = v.ownBlock ∨ (Value.slice o' (n + m) c').ownBlock = some w.heap.size) ∧ ((Value.slice o' (n + m) c') = .slice none 0 0 ↔ v = .slice none 0 0 ∧ m = 0) := by
  obtain ⟨i0, hi, hz0, hz1, hz2⟩ := info_parts he.info
  have form : ∀ {w' : World} {v' : Value} {k : Nat} {ys : List Value}, w'.ownsRow 0 e size v' k ys → ∃ o' c', v' = .slice o' k c' := by
    intro w' v' k ys h
    rcases h.2 with ⟨rfl, rfl⟩ | ⟨g, cap, cur, rfl, _⟩
    · exact ⟨none, 0, rfl⟩
    · exact ⟨some ⟨g, 0, none⟩, cap, rfl⟩
  by_cases hm : m = 0
  · subst hm
    have hn : news = [] := List.eq_nil_of_length_eq_zero (by simpa using hl)
    subst hn
    obtain ⟨o', c', hv⟩ := form hown
    refine ⟨o', c', w, ?_, by rw [Nat.add_zero, ← hv, List.append_nil]; exact hown, Fr.refl _ _, .inl (by rw [Nat.add_zero, ← hv]), by rw [Nat.add_zero, ← hv]; simp⟩
    rw [Nat.add_zero]
    rcases hown.2 with ⟨rfl, h0⟩ | ⟨g, cap, cur, hvg, _, hg, hc, _⟩
    · injection hv with e1 e2 e3
      subst e1 e2 e3
      cases o <;> simp [Builtin.append_, run_underlying he.under, sizeOf, typeInfo, hi, Builtin.lenOf, Builtin.firstCells, loadCells, loadCellsFrom]
    · rw [hvg] at hv ⊢
      injection hv with e1 e2 e3
      subst e1 e3
      cases o <;> simp [Builtin.append_, run_underlying he.under, sizeOf, typeInfo, hi, Builtin.lenOf, Builtin.firstCells, loadCells, loadCellsFrom, storeCells, hc]
  · have hne : 0 < news.length := by rw [hl]; exact Nat.mul_pos (by omega) he.pos
    obtain ⟨a, ha, _⟩ := hnews 0 news[0] (List.getElem?_eq_getElem hne)
    subst ha
    obtain ⟨v', w', hr, h2, h3, h4, h5⟩ := run_append_own_at (P := P) w 0 t ty e i0 z size bytes he.under hi hz0 hz1 hz2 he.cells he.pos v n xs hown a m c news hl (fun j u hu => by obtain ⟨a', e', hc⟩ := hnews j u hu; cases e'; exact hc) h1 b1 b2 (Nat.zero_le _)
    obtain ⟨o', c', rfl⟩ := form h2
    exact ⟨o', c', w', hr, h2, Fr.grown h3 (fun k hk => hk), h5, h4⟩
theorem wp_append_row {o : Oper} {a : Act} {K : Act → World → Prop} {Q : Exit → Act → World → Prop} (W : World) (s x : Operand) (t : TypeId)
    (ho : o.op = .call { callee := .builtin .append, args := #[s, x], argTypes := #[t, t] })
    (e : TypeId) (z : Value) (size bytes : Nat) (he : Elem P t e z size bytes) (v : Value) (n : Nat) (xs : List Value) (hs : a.eval s = v) (hown : W.ownsRow 0 e size v n xs)
    (oa : Option Addr) (m c : Nat) (news : List Value) (hx : a.eval x = .slice oa m c) (hl : news.length = m * size) (hnews : ∀ j u, news[j]? = some u → ∃ a, oa = some a ∧ W.cell? (a.add j) = some u) (h1 : ∀ u ∈ news, u.oneCell' = true) (b1 : n + m ≤ maxLen) (b2 : (n + m) * bytes ≤ 140737488355328)
    (hK : ∀ o' c' w', w'.ownsRow 0 e size (.slice o' (n + m) c') (n + m) (xs ++ news) → Fr (fun k => v.ownBlock = some k) W w' → ((Value.slice o' (n + m) c').ownBlock = v.ownBlock ∨ (Value.slice o' (n + m) c').ownBlock = some W.heap.size) → ((Value.slice o' (n + m) c') = .slice none 0 0 ↔ v = .slice none 0 0 ∧ m = 0) → K (a.put o.dst (.slice o' (n + m) c')) w') :
    o.wp P a W K Q := by
  obtain ⟨o', c', w', hr, h2, h3, h4, h5⟩ := run_append_row (P := P) W t o.type e z size bytes he v n xs hown oa m c news hl hnews h1 b1 b2
  unfold Oper.wp execOp
  simp only [ho, resolve, invoke, builtin, Sem.run_bind, Sem.run_pure, Result.andThen_ok, List.map_toArray, List.map_cons, List.map_nil, hs, hx, hr]
  exact hK o' c' w' h2 h3 h4 h5
theorem wpList_append_row {ops : Array Oper} {rest : List Oper} {o : Oper} {a : Act} {Q : Exit → Act → World → Prop} (W : World) (hg : o.guard = none) (s x : Operand) (t : TypeId)
    (ho : o.op = .call { callee := .builtin .append, args := #[s, x], argTypes := #[t, t] })
    (e : TypeId) (z : Value) (size bytes : Nat) (he : Elem P t e z size bytes) (v : Value) (n : Nat) (xs : List Value) (hs : a.eval s = v) (hown : W.ownsRow 0 e size v n xs)
    (oa : Option Addr) (m c : Nat) (news : List Value) (hx : a.eval x = .slice oa m c) (hl : news.length = m * size) (hnews : ∀ j u, news[j]? = some u → ∃ a, oa = some a ∧ W.cell? (a.add j) = some u) (h1 : ∀ u ∈ news, u.oneCell' = true) (b1 : n + m ≤ maxLen) (b2 : (n + m) * bytes ≤ 140737488355328)
    (hK : ∀ o' c' w', w'.ownsRow 0 e size (.slice o' (n + m) c') (n + m) (xs ++ news) → Fr (fun k => v.ownBlock = some k) W w' → ((Value.slice o' (n + m) c').ownBlock = v.ownBlock ∨ (Value.slice o' (n + m) c').ownBlock = some W.heap.size) → ((Value.slice o' (n + m) c') = .slice none 0 0 ↔ v = .slice none 0 0 ∧ m = 0) → wpList P ops Q rest (a.put o.dst (.slice o' (n + m) c')) w') :
    wpList P ops Q (o :: rest) a W :=
  wpList_plain hg fun _ hK' => wp_append_row W s x t ho e z size bytes he v n xs hs hown oa m c news hx hl hnews h1 b1 b2 fun o' c' w' h2 h3 h4 h5 => hK' _ _ (hK o' c' w' h2 h3 h4 h5)
end
end Go.Proofs.YtnfodiedalhlhaaDoor
end
section
namespace Go.Proofs.YtnfodiedalhlhaaDoor
open Go.RowKit
def RowN : List Value → List Nd → Prop
  | xs, [] => xs = []
  | xs, h :: r => ∃ o1 l1 c1 o2 l2 c2 ys, xs = (cells9 h o1 l1 c1 o2 l2 c2).toList ++ ys ∧ RowN ys r
theorem RowN.app : ∀ (l l' : List Nd) (xs ys : List Value), RowN xs l → RowN ys l' → RowN (xs ++ ys) (l ++ l')
  | [], l', xs, ys, h, h' => by cases h; exact h'
  | t :: r, l', xs, ys, h, h' => by
    obtain ⟨o1, l1, c1, o2, l2, c2, zs, rfl, hr⟩ := h
    exact ⟨o1, l1, c1, o2, l2, c2, _, by rw [List.append_assoc], RowN.app r l' zs ys hr h'⟩
theorem RowN.get : ∀ (l : List Nd) (xs : List Value) (i : Nat) (t : Nd), RowN xs l → l[i]? = some t → ∃ o1 l1 c1 o2 l2 c2, ∀ j, j < 9 → xs[i * 9 + j]? = (cells9 t o1 l1 c1 o2 l2 c2)[j]?
  | [], xs, i, t, _, h => by simp at h
  | u :: r, xs, 0, t, h, hi => by
    obtain ⟨o1, l1, c1, o2, l2, c2, ys, rfl, hr⟩ := h
    simp at hi; subst hi
    refine ⟨o1, l1, c1, o2, l2, c2, fun j hj => ?_⟩
    rw [Nat.zero_mul, Nat.zero_add, List.getElem?_append_left (by simpa using hj)]
    simp
  | u :: r, xs, i + 1, t, h, hi => by
    obtain ⟨o1, l1, c1, o2, l2, c2, ys, rfl, hr⟩ := h
    obtain ⟨p1, m1, d1, p2, m2, d2, hj⟩ := RowN.get r ys i t hr (by simpa using hi)
    refine ⟨p1, m1, d1, p2, m2, d2, fun j hj' => ?_⟩
    rw [List.getElem?_append_right (by simp; omega), ← hj j hj']
    congr 1
    simp; omega
theorem RowN.one : ∀ (l : List Nd) (xs : List Value), RowN xs l → ∀ u ∈ xs, u.oneCell' = true
  | [], xs, h, u, hu => by cases h; simp at hu
  | t :: r, xs, h, u, hu => by
    obtain ⟨o1, l1, c1, o2, l2, c2, ys, rfl, hr⟩ := h
    rcases List.mem_append.1 hu with h | h
    · simp at h
      rcases h with h | h | h | h | h | h | h | h | h <;> subst h <;> rfl
    · exact RowN.one r ys hr u h
def ListN (B : Nat) (W : World) (o : Option Addr) (c : Nat) (l : List Nd) (xs : List Value) : Prop :=
  W.ownsRow 0 30 9 (.slice o l.length c) l.length xs ∧ RowN xs l ∧ ∀ k, (Value.slice o l.length c).ownBlock = some k → B ≤ k
theorem ListN.stay {B : Nat} {W W' : World} {o : Option Addr} {c : Nat} {l : List Nd} {xs : List Value} (h : ListN B W o c l xs) (hq : Quiet0 W W') : ListN B W' o c l xs :=
  ⟨ownsRow_fr h.1 hq (fun _ _ h => h), h.2⟩
def HeadsAt (w : World) (o : Option Addr) (l : List Nd) : Prop := ∀ i t, l[i]? = some t → ∃ b off o1 l1 c1 o2 l2 c2, o = some ⟨b, off, none⟩ ∧ Cells9 w b (off + i * 9) t o1 l1 c1 o2 l2 c2
theorem HeadsAt.stay {w w' : World} {o : Option Addr} {l : List Nd} (h : HeadsAt w o l) (hq : Quiet0 w w') : HeadsAt w' o l := by
  intro i t ht
  obtain ⟨b, off, o1, l1, c1, o2, l2, c2, ho, hc⟩ := h i t ht
  exact ⟨b, off, o1, l1, c1, o2, l2, c2, ho, hc.fr hq (fun h => h)⟩
theorem ListN.heads {B : Nat} {W : World} {o : Option Addr} {c : Nat} {l : List Nd} {xs : List Value} (h : ListN B W o c l xs) : HeadsAt W o l := by
  intro i t ht
  rcases h.1.2 with ⟨_, h0⟩ | ⟨g, cap', cur, he, _⟩
  · rw [List.length_eq_zero_iff.1 h0] at ht; simp at ht
  · injection he with h1 h2 h3
    subst h1
    obtain ⟨o1, l1, c1, o2, l2, c2, hj⟩ := RowN.get l xs i t h.2.1 ht
    have hc : ∀ j, j < 9 → W.cell? ⟨g, i * 9 + j, none⟩ = (cells9 t o1 l1 c1 o2 l2 c2)[j]? := by
      intro j h8
      have e := hj j h8
      rw [Array.getElem?_eq_getElem (by simpa using h8)] at e ⊢
      have := h.1.cells (g := g) rfl (i * 9 + j) _ e
      simpa [Addr.add_lit] using this
    refine ⟨g, 0, o1, l1, c1, o2, l2, c2, rfl, ?_⟩
    rw [Nat.zero_add]
    exact ⟨hc 0 (by omega), hc 1 (by omega), hc 2 (by omega), hc 3 (by omega), hc 4 (by omega), hc 5 (by omega), hc 6 (by omega), hc 7 (by omega), hc 8 (by omega)⟩
def hds (f : To) : List Nd := f.flat.map (·.1)
theorem hds_cons (h : Nd) (ps r : To) : hds (.cons h ps r) = (h :: hds ps) ++ hds r := by simp [hds, To.flat]
theorem hds_length (f : To) : (hds f).length = f.size := by unfold hds; rw [List.length_map, To.flat_length]
def ListQ (w : World) (l : List Nd) (e : Ending) (w' : World) : Prop := ∃ o c xs, e = .returned (.slice o l.length c) ∧ ListN w.heap.size w' o c l xs ∧ Quiet0 w w'
def RListN (h : Nd) (ps : To) : Prop := ∀ (w : World) (R : Nat → Prop) (o1 : Option Addr) (l1 c1 : Nat) (o2 : Option Addr) (l2 c2 : Nat), TSlc R w o2 l2 ps → ps.size ≤ 100000 →
  Calls Tryd.prog 28 #[tmv h o1 l1 c1 o2 l2 c2] w (ListQ w (h :: hds ps))
set_option maxHeartbeats 2000000 in
theorem refListN_any (h : Nd) (ps : To) : RListN h ps := by
  refine To.ind' (T := RListN) ?_ h ps
  intro h ps ih w R o1 l1 c1 o2 l2 c2 hs hsz
  have HS := Lib.hid hs
  have IH := Lib.hid ih
  have hl := hs.1
  have hll := To.length_le ps
  rw [← hl] at hll
  have HL := Lib.hid hl
  clear hs ih hl
  unfold tmv
  go_enter Tryd.func28, Tryd.ntmps28
  go_wp2_with fail
  obtain ⟨W0, hW0⟩ : ∃ W0, W0 = w.alloc (.cells (cells9 h o1 l1 c1 o2 l2 c2) 30) := ⟨_, rfl⟩
  have HB : Hid (∀ W, Quiet0 W0 W → W.cell? ⟨w.heap.size, 6, none⟩ = some (.slice o2 l2 c2)) := by
    intro W hq; rw [hW0] at hq; exact (box9 w h o1 l1 c1 o2 l2 c2 _ W hq).2.2.2.2.2.2.1
  have HQ0 : Hid (Quiet0 w W0) := by rw [hW0]; exact Quiet0.alloc _ _
  have hz0 : W0.heap.size = w.heap.size + 1 := by rw [hW0]; simp
  obtain ⟨W1, hW1⟩ : ∃ W1, W1 = W0.alloc (.cells (cells9 h o1 l1 c1 o2 l2 c2) 30) := ⟨_, rfl⟩
  have hnew := heap_alloc_new W0 (.cells (cells9 h o1 l1 c1 o2 l2 c2) 30)
  rw [← hW1, hz0] at hnew
  have HQ1 : Hid (Quiet0 W0 W1) := by rw [hW1]; exact Quiet0.alloc _ _
  have HROW : Hid (ListN (w.heap.size + 1) W1 (some ⟨w.heap.size + 1, 0, none⟩) 1 [h] (cells9 h o1 l1 c1 o2 l2 c2).toList) := by
    refine ⟨⟨rfl, .inr ⟨w.heap.size + 1, 1, cells9 h o1 l1 c1 o2 l2 c2, rfl, Nat.zero_le _, hnew, Nat.le_refl _, by decide, rfl, rfl⟩⟩, ?_, ?_⟩
    · exact ⟨o1, l1, c1, o2, l2, c2, [], by simp, rfl⟩
    · intro k hk
      simp [Value.ownBlock] at hk
      omega
  change Code.wp _ _ _ _ ((w.alloc (.cells (cells9 h o1 l1 c1 o2 l2 c2) 30)).alloc (.cells (cells9 h o1 l1 c1 o2 l2 c2) 30))
  rw [← hW0, ← hW1]
  clear hW0 hW1 hnew
  have HZ := Lib.hid hz0
  clear hz0
  generalize hnb : w.heap.size = nb at *
  have HNB := Lib.hid hnb
  clear hnb
  go_loopw [3, 4] (fun s t wr => ∃ (i n c : Nat) (o : Option Addr) (l : List Nd) (xs : List Value), t = .int .i64 i ∧ s = .slice o n c ∧ i ≤ l2 ∧ l.length = n ∧ l ++ hds (ps.drop i) = h :: hds ps ∧ ListN (nb + 1) wr o c l xs ∧ Quiet0 W0 wr) (fun _ t _ => l2 - (intOf t).toNat)
  case atStart => exact ⟨0, 1, 1, _, [h], _, rfl, rfl, Nat.zero_le _, rfl, by rw [To.drop_zero]; rfl, HROW.out, HQ1.out⟩
  case round =>
    obtain ⟨i, n, c, o, l, xs, rfl, rfl, hi, hln, hn, hrow, hq⟩ := hrel
    have hsz2 : n + (ps.drop i).size = ps.size + 1 := by
      have := congrArg List.length hn
      simp only [List.length_append, List.length_cons, hds_length] at this
      omega
    have HLN := Lib.hid hln
    have HSZ2 := Lib.hid hsz2
    have HN := Lib.hid hn
    have HR := Lib.hid hrow
    have HQ := Lib.hid hq
    have cc := HB.out wr hq
    have hnb : n ≤ 100001 := by omega
    clear hn hrow hq hln hsz2
    by_cases hlt : i < l2
    · have hlt' : (i : Int) < l2 := by omega
      obtain ⟨b, off, hd, qs, p1, m1, d1, p2, m2, d2, rfl, hd1, hg, hRb, ⟨e0, e1, e2, e3, e4, e5, e6, e7, e8⟩, hs1, ht1⟩ := (HS.out.stay (HQ0.out.trans HQ.out)).nth hlt
      have hsq := To.size_get ps i hd qs hg
      have HC := Lib.hid (IH.out i hd qs hg wr R p1 m1 d1 p2 m2 d2 ht1 (by omega))
      have HD : Hid ((l ++ (hd :: hds qs)) ++ hds (ps.drop (i + 1)) = h :: hds ps) := by
        have := HN.out; rw [hd1, hds_cons] at this; show _ = _; rw [← this, List.append_assoc]
      have hlq : (hd :: hds qs).length = qs.size + 1 := by rw [List.length_cons, hds_length]
      have hqz : qs.size + 1 ≤ 100001 := by omega
      have HLQ := Lib.hid hlq
      unfold tmv at HC
      clear hd1 hg hs1 ht1 hsq hRb hlq
      go_wp2_with fail
      refine HC.out.mono ?_; rintro e w1 ⟨q, d, ys, rfl, hrow1, hq1⟩
      rw [HLQ.out]
      have HQ1' := Lib.hid (HQ.out.trans hq1)
      have HR1 := Lib.hid (HR.out.stay hq1)
      have HR2 := Lib.hid hrow1
      have HBZ : Hid (nb + 1 ≤ w1.heap.size) := by have := HQ1'.out.size; have := HZ.out; show _ ≤ _; omega
      have HNW : Hid (∀ j u, ys[j]? = some u → ∃ a, q = some a ∧ w1.cell? (a.add j) = some u) := by
        intro j u hu
        rcases hrow1.1.2 with ⟨_, h2⟩ | ⟨g, cap', cur, he, _⟩
        · simp at h2
        · injection he with h1 h2 h3
          subst h1
          exact ⟨_, rfl, hrow1.1.cells rfl j u hu⟩
      clear hq1 hrow1 cc
      go_wp2_with (at_builtin; (refine wpList_append_row w1 rfl (.tmp 14) (.tmp 20) 26 rfl 30 _ 9 112 elemTm (.slice o n c) n xs rfl (HLN.out ▸ HR1.out.1) q (qs.size + 1) d ys rfl (by have := HR2.out.1.1; rw [HLQ.out] at this; exact this) HNW.out (RowN.one _ _ HR2.out.2.1) (by unfold maxLen; omega) (by omega) ?_); intro o3 c3 w3 ho hf hob hnil)
      have HL3 : Hid ((l ++ (hd :: hds qs)).length = n + (qs.size + 1)) := by show _ = _; rw [List.length_append, HLN.out, HLQ.out]
      have HR3 : Hid (ListN (nb + 1) w3 o3 c3 (l ++ (hd :: hds qs)) (xs ++ ys)) := by
        refine ⟨by rw [HL3.out]; exact ho, RowN.app _ _ _ _ HR1.out.2.1 HR2.out.2.1, ?_⟩
        rw [HL3.out]
        intro k hk
        rcases hob with h | h
        · exact HR1.out.2.2 k (by rw [HLN.out, ← h]; exact hk)
        · rw [h] at hk; cases hk; exact HBZ.out
      have HQ3 : Hid (Quiet0 W0 w3) := Fr.trans' HQ1'.out hf (fun k hk hs => by have := HR1.out.2.2 k (by rw [HLN.out]; exact hs); have := HZ.out; omega)
      clear ho hf hob hnil
      go_wp2_with fail
      go_roundw
      case rel => exact ⟨i + 1, n + (qs.size + 1), c3, o3, _, xs ++ ys, by go_num, rfl, by omega, HL3.out, HD.out, HR3.out, HQ3.out⟩
      case measure => simp [intOf]; omega
    · have hlt' : ¬ (i : Int) < l2 := by omega
      have HE : Hid (l = h :: hds ps) := by
        have := HN.out
        rw [To.drop_end ps i (by have := HL.out; omega)] at this
        show _ = _
        simpa [hds, To.flat] using this
      go_wp2_with fail
      go_ret
      rw [← HE.out]
      refine ⟨o, c, xs, by rw [HLN.out]; rfl, ⟨HR.out.1, HR.out.2.1, fun k hk => by have := HR.out.2.2 k hk; have := HNB.out; omega⟩, HQ0.out.trans HQ.out⟩
end Go.Proofs.YtnfodiedalhlhaaDoor
end
section
namespace Go.Proofs.YtnfodiedalhlhaaDoor
open Go.RowKit
namespace Sc
theorem list_nil (B : Nat) (W : World) : ListN B W none 0 [] [] := ⟨World.ownsRow_nil _ _ _ _, rfl, fun k hk => (by cases hk)⟩
theorem list_fr {B : Nat} {W W' : World} {o : Option Addr} {c : Nat} {l : List Nd} {xs : List Value} {S : Nat → Prop} (h : ListN B W o c l xs) (hf : Fr S W W') (hS : ∀ k, (Value.slice o l.length c).ownBlock = some k → ¬ S k) : ListN B W' o c l xs :=
  ⟨ownsRow_fr h.1 hf hS, h.2⟩
theorem list_low {B B' : Nat} {W : World} {o : Option Addr} {c : Nat} {l : List Nd} {xs : List Value} (h : ListN B W o c l xs) (hB : B' ≤ B) : ListN B' W o c l xs :=
  ⟨h.1, h.2.1, fun k hk => Nat.le_trans hB (h.2.2 k hk)⟩
end Sc
end Go.Proofs.YtnfodiedalhlhaaDoor
end
section
namespace Go.Proofs.YtnfodiedalhlhaaDoor
open Go.RowKit
theorem eg_same : ∀ args w, (callFunc 83 args).run Tryd.prog w = .ok (.enter 83 args) w := enters_of Tryd.func83 (by kernel_rfl) rfl
def PSame (k n : Int) (ps : Fo) : Prop := ∀ (k' n' : Int) (ps' : Fo) (w : World) (o : Option Addr) (len cap : Nat) (o' : Option Addr) (len' cap' : Nat), Slc w o len ps → Slc w o' len' ps' →
  Calls Tryd.prog 83 #[tyv k n o len cap, tyv k' n' o' len' cap'] w fun e w' => e = .returned (.bool (sameT k n ps k' n' ps')) ∧ Quiet0 w w'
set_option maxRecDepth 100000 in
set_option maxHeartbeats 2000000 in
theorem equalFunc_any (ps ps' : Fo) (ih : ∀ i k n qs, ps.get i = some (k, n, qs) → PSame k n qs) (w : World) (o : Option Addr) (len cap : Nat) (o' : Option Addr) (len' cap' : Nat) (hs : Slc w o len ps) (hs' : Slc w o' len' ps') :
    Calls Tryd.prog 105 #[.slice o len cap, .slice o' len' cap', .func (.func 83) #[] #[]] w fun e w' => e = .returned (.bool (ps.same ps')) ∧ Quiet0 w w' := by
  have HS := Lib.hid hs
  have HS' := Lib.hid hs'
  have IH := Lib.hid ih
  have HL := Lib.hid hs.1
  have HL' := Lib.hid hs'.1
  have hmx := hs.2.1
  unfold maxLen at hmx
  have eg := eg_same
  clear hs hs' ih
  obtain ⟨res, hres⟩ : ∃ res, res = ps.same ps' := ⟨_, rfl⟩
  have HRES := Lib.hid hres
  rw [← hres]
  clear hres
  by_cases hlen : len = len'
  · subst hlen
    have b3 : ((len : Int) != (len : Int)) = false := by simp
    go_enter Tryd.func105, Tryd.ntmps105
    go_wp2_with fail
    go_loopw [17] (fun t wr => ∃ (i : Nat), t = .int .i64 i ∧ i ≤ len ∧ res = (ps.drop i).same (ps'.drop i) ∧ Quiet0 w wr) (fun t _ => len - (intOf t).toNat)
    case atStart => exact ⟨0, rfl, Nat.zero_le _, by rw [Fo.drop_zero, Fo.drop_zero]; exact HRES.out, Quiet0.refl _⟩
    case round =>
      obtain ⟨i, rfl, hi, hr, hq⟩ := hrel
      have HR := Lib.hid hr
      have HQ := Lib.hid hq
      clear hr hq
      by_cases hlt : i < len
      · have hlt' : (i : Int) < len := by omega
        obtain ⟨b, off, k1, n1, qs1, o1, len1, cap1, rfl, hd1, hg1, e0, e1, e2, hs1⟩ := (HS.out.stay HQ.out).nth hlt
        obtain ⟨b2, off2, k2, n2, qs2, o2, len2, cap2, rfl, hd2, hg2, f0, f1, f2, hs2⟩ := (HS'.out.stay HQ.out).nth hlt
        have hbl := World.block_lt_of_cell? _ _ e0
        have hbl2 := World.block_lt_of_cell? _ _ f0
        have HC := Lib.hid (fun (W : World) (hq : Quiet0 wr W) => IH.out i k1 n1 qs1 hg1 k2 n2 qs2 W o1 len1 cap1 o2 len2 cap2 (hs1.stay hq) (hs2.stay hq))
        have HN : Hid (res = (sameT k1 n1 qs1 k2 n2 qs2 && (ps.drop (i + 1)).same (ps'.drop (i + 1)))) := by
          show _ = _
          rw [HR.out, hd1, hd2, same_cons]
        unfold tyv at HC
        clear hd1 hg1 hs1 hd2 hg2 hs2
        cases hb : sameT k1 n1 qs1 k2 n2 qs2
        all_goals
          have HBV := Lib.hid hb
          rw [hb] at HC
          clear hb
          go_wp2_with fail
          refine (HC.out _ ((Quiet0.alloc _ _).trans (Quiet0.alloc _ _))).mono ?_; rintro e w1 ⟨rfl, hq1⟩
          have HQ1 := Lib.hid (HQ.out.trans (((Quiet0.alloc _ _).trans (Quiet0.alloc _ _)).trans hq1))
          clear hq1
          go_wp2_with fail
        · go_ret
          exact ⟨by rw [HN.out, HBV.out]; rfl, HQ1.out⟩
        · go_roundw
          case rel => exact ⟨i + 1, by go_num, by omega, by rw [HN.out, HBV.out]; rfl, HQ1.out⟩
          case measure => simp [intOf]; omega
      · have hlt' : ¬ (i : Int) < len := by omega
        have HY : Hid (res = true) := by
          show _ = _
          rw [HR.out, Fo.drop_end ps i (by have := HL.out; omega), Fo.drop_end ps' i (by have := HL'.out; omega)]; rfl
        go_wp2_with fail
        go_ret
        exact ⟨by rw [HY.out]; rfl, HQ.out⟩
  · have HF : Hid (res = false) := by
      show _ = _
      rw [HRES.out]
      cases h : ps.same ps'
      · rfl
      · exact absurd (Fo.same_length _ _ h) (by have := HL.out; have := HL'.out; omega)
    have b3 : ((len : Int) != (len' : Int)) = true := by simp; omega
    go_enter Tryd.func105, Tryd.ntmps105
    go_wp2_with fail
    go_ret
    exact ⟨by rw [HF.out]; rfl, Quiet0.refl _⟩
set_option maxHeartbeats 1000000 in
theorem same_any (k n : Int) (ps : Fo) : PSame k n ps := by
  refine Fo.ind' (T := PSame) ?_ k n ps
  intro k n ps ih k' n' ps' w o len cap o' len' cap' hs hs'
  have HC := Lib.hid (fun (W : World) (hq : Quiet0 w W) => equalFunc_any ps ps' ih W o len cap o' len' cap' (hs.stay hq) (hs'.stay hq))
  unfold sameT
  clear hs hs' ih
  generalize ps.same ps' = r at *
  cases hk : (k == k')
  · unfold tyv
    go_enter Tryd.func83, Tryd.ntmps83
    go_wp2_with fail
    go_ret
    exact ⟨rfl, (Quiet0.alloc _ _).trans (Quiet0.alloc _ _)⟩
  · cases hn : (n == n')
    · unfold tyv
      go_enter Tryd.func83, Tryd.ntmps83
      go_wp2_with fail
      go_ret
      exact ⟨rfl, (Quiet0.alloc _ _).trans (Quiet0.alloc _ _)⟩
    · unfold tyv
      go_enter Tryd.func83, Tryd.ntmps83
      go_wp2_with fail
      refine (HC.out _ ((Quiet0.alloc _ _).trans (Quiet0.alloc _ _))).mono ?_; rintro e w1 ⟨rfl, hq1⟩
      go_wp2_with fail
      go_ret
      exact ⟨by simp, ((Quiet0.alloc _ _).trans (Quiet0.alloc _ _)).trans hq1⟩
end Go.Proofs.YtnfodiedalhlhaaDoor
end
section
namespace Go.Proofs.YtnfodiedalhlhaaDoor
open Go.RowKit
def headB (all : Bool) (a b : Nd) : Bool :=
  (a.k == b.k) && (a.nm.toList == b.nm.toList) && (if all then (a.n == b.n) && ((a.fr == b.fr) && (a.en == b.en)) else (a.n == b.n) || (a.k == 1)) && sameT a.tk a.tn a.tp b.tk b.tn b.tp
def alikeT (all : Bool) (a : Nd) (p : To) (b : Nd) (q : To) : Bool := headB all a b && p.alike (headB all) q
theorem alike_cons (all : Bool) (a : Nd) (p r : To) (b : Nd) (q r' : To) : (To.cons a p r).alike (headB all) (.cons b q r') = (alikeT all a p b q && r.alike (headB all) r') := by simp [To.alike, alikeT]
theorem alike_len (all : Bool) (a : Nd) (p : To) (b : Nd) (q : To) (h : p.length ≠ q.length) : alikeT all a p b q = false := by
  unfold alikeT
  cases hh : p.alike (headB all) q
  · simp
  · exact absurd (To.alike_length _ _ _ hh) h
theorem box92 (w : World) (a : Nd) (o1 : Option Addr) (l1 c1 : Nat) (o2 : Option Addr) (l2 c2 : Nat) (b : Nd) (p1 : Option Addr) (m1 d1 : Nat) (p2 : Option Addr) (m2 d2 : Nat) (t : TypeId) (W : World) (hq : Quiet0 ((w.alloc (.cells (cells9 a o1 l1 c1 o2 l2 c2) t)).alloc (.cells (cells9 b p1 m1 d1 p2 m2 d2) t)) W) :
    Cells9 W w.heap.size 0 a o1 l1 c1 o2 l2 c2 ∧ Cells9 W (w.heap.size + 1) 0 b p1 m1 d1 p2 m2 d2 := by
  refine ⟨box9 w a o1 l1 c1 o2 l2 c2 t W ((Quiet0.alloc _ _).trans hq), ?_⟩
  have h := box9 (w.alloc (.cells (cells9 a o1 l1 c1 o2 l2 c2) t)) b p1 m1 d1 p2 m2 d2 t W hq
  have e : (w.alloc (.cells (cells9 a o1 l1 c1 o2 l2 c2) t)).heap.size = w.heap.size + 1 := by simp
  rw [e] at h
  exact h
set_option maxHeartbeats 4000000 in
theorem refAlike_any (all : Bool) (a : Nd) (p : To) (b : Nd) (q : To) (w : World) (o1 : Option Addr) (l1 c1 : Nat) (o2 : Option Addr) (l2 c2 : Nat) (p1 : Option Addr) (m1 d1 : Nat) (p2 : Option Addr) (m2 d2 : Nat) (R : Nat → Prop)
    (h1 : SlcIn R w o1 l1 a.tp) (h2 : TSlc R w o2 l2 p) (h3 : SlcIn R w p1 m1 b.tp) (h4 : TSlc R w p2 m2 q) :
    Calls Tryd.prog 79 #[tmv a o1 l1 c1 o2 l2 c2, tmv b p1 m1 d1 p2 m2 d2, .bool all] w fun e w' => e = .returned (.bool (headB all a b && (p.length == q.length))) ∧ Quiet0 w w' := by
  have HC := Lib.hid (fun (W : World) (hq : Quiet0 w W) => refSame_any a.tk a.tn a.tp b.tk b.tn b.tp W o1 l1 c1 p1 m1 d1 (h1.slc.stay hq) (h3.slc.stay hq))
  have e2 := h2.1
  have e4 := h4.1
  rw [← e2, ← e4]
  clear h1 h2 h3 h4 e2 e4
  unfold headB
  unfold tyv at HC
  generalize sameT a.tk a.tn a.tp b.tk b.tn b.tp = sb at *
  obtain ⟨ak, an, aN, atk, atn, atp, af, ae⟩ := a
  obtain ⟨bk, bn, bN, btk, btn, btp, bf, be⟩ := b
  dsimp only at *
  unfold tmv
  dsimp only
  cases hk : (ak == bk)
  · have hk' : (ak != bk) = true := by simp [bne, hk]
    cases all
    all_goals
      go_enter Tryd.func79, Tryd.ntmps79
      go_wp2_with fail
      go_ret
      exact ⟨rfl, (Quiet0.alloc _ _).trans (Quiet0.alloc _ _)⟩
  · have hk' : (ak != bk) = false := by simp [bne, hk]
    cases hn : (an.toList == bn.toList)
    · have hn' : (an.toList != bn.toList) = true := by simp [bne, hn]
      cases all
      all_goals
        go_enter Tryd.func79, Tryd.ntmps79
        go_wp2_with fail
        go_ret
        exact ⟨rfl, (Quiet0.alloc _ _).trans (Quiet0.alloc _ _)⟩
    · have hn' : (an.toList != bn.toList) = false := by simp [bne, hn]
      cases sb
      · cases all
        all_goals
          go_enter Tryd.func79, Tryd.ntmps79
          go_wp2_with fail
          refine (HC.out _ ((Quiet0.alloc _ _).trans (Quiet0.alloc _ _))).mono ?_; rintro e w1 ⟨rfl, hq1⟩
          go_wp2_with fail
          go_ret
          exact ⟨by simp, ((Quiet0.alloc _ _).trans (Quiet0.alloc _ _)).trans hq1⟩
      · cases hl : (l2 == m2)
        · have hl' : ((l2 : Int) != (m2 : Int)) = true := by
            have : l2 ≠ m2 := by simpa using hl
            simp [bne]; omega
          cases all
          all_goals
            go_enter Tryd.func79, Tryd.ntmps79
            go_wp2_with fail
            refine (HC.out _ ((Quiet0.alloc _ _).trans (Quiet0.alloc _ _))).mono ?_; rintro e w1 ⟨rfl, hq1⟩
            obtain ⟨⟨a0, a1, a2, a3, a4, a5, a6, a7, a8⟩, b0, b1, b2, b3, b4, b5, b6, b7, b8⟩ := box92 w ⟨ak, an, aN, atk, atn, atp, af, ae⟩ o1 l1 c1 o2 l2 c2 ⟨bk, bn, bN, btk, btn, btp, bf, be⟩ p1 m1 d1 p2 m2 d2 _ _ hq1
            dsimp only at *
            go_wp2_with fail
            go_ret
            exact ⟨by simp, ((Quiet0.alloc _ _).trans (Quiet0.alloc _ _)).trans hq1⟩
        · have hl' : ((l2 : Int) != (m2 : Int)) = false := by
            have : l2 = m2 := by simpa using hl
            simp [bne, this]
          cases hN : (aN == bN)
          · cases all
            · cases hk1 : (ak == 1)
              all_goals
                go_enter Tryd.func79, Tryd.ntmps79
                go_wp2_with fail
                refine (HC.out _ ((Quiet0.alloc _ _).trans (Quiet0.alloc _ _))).mono ?_; rintro e w1 ⟨rfl, hq1⟩
                obtain ⟨⟨a0, a1, a2, a3, a4, a5, a6, a7, a8⟩, b0, b1, b2, b3, b4, b5, b6, b7, b8⟩ := box92 w ⟨ak, an, aN, atk, atn, atp, af, ae⟩ o1 l1 c1 o2 l2 c2 ⟨bk, bn, bN, btk, btn, btp, bf, be⟩ p1 m1 d1 p2 m2 d2 _ _ hq1
                dsimp only at *
                go_wp2_with fail
                go_ret
                exact ⟨by simp, ((Quiet0.alloc _ _).trans (Quiet0.alloc _ _)).trans hq1⟩
            · go_enter Tryd.func79, Tryd.ntmps79
              go_wp2_with fail
              refine (HC.out _ ((Quiet0.alloc _ _).trans (Quiet0.alloc _ _))).mono ?_; rintro e w1 ⟨rfl, hq1⟩
              obtain ⟨⟨a0, a1, a2, a3, a4, a5, a6, a7, a8⟩, b0, b1, b2, b3, b4, b5, b6, b7, b8⟩ := box92 w ⟨ak, an, aN, atk, atn, atp, af, ae⟩ o1 l1 c1 o2 l2 c2 ⟨bk, bn, bN, btk, btn, btp, bf, be⟩ p1 m1 d1 p2 m2 d2 _ _ hq1
              dsimp only at *
              go_wp2_with fail
              go_ret
              exact ⟨by simp, ((Quiet0.alloc _ _).trans (Quiet0.alloc _ _)).trans hq1⟩
          · cases all
            · go_enter Tryd.func79, Tryd.ntmps79
              go_wp2_with fail
              refine (HC.out _ ((Quiet0.alloc _ _).trans (Quiet0.alloc _ _))).mono ?_; rintro e w1 ⟨rfl, hq1⟩
              obtain ⟨⟨a0, a1, a2, a3, a4, a5, a6, a7, a8⟩, b0, b1, b2, b3, b4, b5, b6, b7, b8⟩ := box92 w ⟨ak, an, aN, atk, atn, atp, af, ae⟩ o1 l1 c1 o2 l2 c2 ⟨bk, bn, bN, btk, btn, btp, bf, be⟩ p1 m1 d1 p2 m2 d2 _ _ hq1
              dsimp only at *
              go_wp2_with fail
              go_ret
              exact ⟨by simp, ((Quiet0.alloc _ _).trans (Quiet0.alloc _ _)).trans hq1⟩
            · go_enter Tryd.func79, Tryd.ntmps79
              go_wp2_with fail
              refine (HC.out _ ((Quiet0.alloc _ _).trans (Quiet0.alloc _ _))).mono ?_; rintro e w1 ⟨rfl, hq1⟩
              obtain ⟨⟨a0, a1, a2, a3, a4, a5, a6, a7, a8⟩, b0, b1, b2, b3, b4, b5, b6, b7, b8⟩ := box92 w ⟨ak, an, aN, atk, atn, atp, af, ae⟩ o1 l1 c1 o2 l2 c2 ⟨bk, bn, bN, btk, btn, btp, bf, be⟩ p1 m1 d1 p2 m2 d2 _ _ hq1
              dsimp only at *
              go_wp2_with fail
              all_goals
                go_ret
                exact ⟨by simp_all, ((Quiet0.alloc _ _).trans (Quiet0.alloc _ _)).trans hq1⟩
def RAlike (all : Bool) (a : Nd) (p : To) : Prop := ∀ (b : Nd) (q : To) (w : World) (o1 : Option Addr) (l1 c1 : Nat) (o2 : Option Addr) (l2 c2 : Nat) (p1 : Option Addr) (m1 d1 : Nat) (p2 : Option Addr) (m2 d2 : Nat) (R : Nat → Prop),
  SlcIn R w o1 l1 a.tp → TSlc R w o2 l2 p → SlcIn R w p1 m1 b.tp → TSlc R w p2 m2 q →
  Calls Tryd.prog 44 #[tmv a o1 l1 c1 o2 l2 c2, tmv b p1 m1 d1 p2 m2 d2, .bool all] w fun e w' => e = .returned (.bool (alikeT all a p b q)) ∧ Quiet0 w w'
set_option maxRecDepth 100000 in
set_option maxHeartbeats 4000000 in
theorem refSameT_any (all : Bool) (a : Nd) (p : To) : RAlike all a p := by
  refine To.ind' (T := RAlike all) ?_ a p
  intro a p ih b q w o1 l1 c1 o2 l2 c2 p1 m1 d1 p2 m2 d2 R h1 h2 h3 h4
  have HC0 := Lib.hid (fun (W : World) (hq : Quiet0 w W) => refAlike_any all a p b q W o1 l1 c1 o2 l2 c2 p1 m1 d1 p2 m2 d2 R (h1.stay hq) (h2.stay hq) (h3.stay hq) (h4.stay hq))
  have HS := Lib.hid h2
  have HS' := Lib.hid h4
  have IH := Lib.hid ih
  have HL := Lib.hid h2.1
  have HL' := Lib.hid h4.1
  have hmx := h2.2.1
  unfold maxLen at hmx
  clear h1 h2 h3 h4 ih
  obtain ⟨res, hres⟩ : ∃ res, res = alikeT all a p b q := ⟨_, rfl⟩
  have HRES := Lib.hid hres
  rw [← hres]
  clear hres
  obtain ⟨hb, hhb⟩ : ∃ hb, hb = (headB all a b && (p.length == q.length)) := ⟨_, rfl⟩
  have HHB := Lib.hid hhb
  rw [← hhb] at HC0
  clear hhb
  unfold tmv at HC0 ⊢
  obtain ⟨W0, hW0⟩ : ∃ W0, W0 = (w.alloc (.cells (cells9 a o1 l1 c1 o2 l2 c2) 30)).alloc (.cells (cells9 b p1 m1 d1 p2 m2 d2) 30) := ⟨_, rfl⟩
  have HQ0 : Hid (Quiet0 w W0) := by rw [hW0]; exact (Quiet0.alloc _ _).trans (Quiet0.alloc _ _)
  have HBB : Hid (∀ W, Quiet0 W0 W → W.cell? ⟨w.heap.size, 6, none⟩ = some (.slice o2 l2 c2) ∧ W.cell? ⟨w.heap.size + 1, 6, none⟩ = some (.slice p2 m2 d2)) := by
    intro W hq; rw [hW0] at hq
    have := box92 w a o1 l1 c1 o2 l2 c2 b p1 m1 d1 p2 m2 d2 _ W hq
    exact ⟨this.1.2.2.2.2.2.2.1, this.2.2.2.2.2.2.2.1⟩
  cases hb
  · have HF : Hid (res = false) := by
      show _ = _
      rw [HRES.out]
      have := HHB.out
      cases hh : headB all a b
      · unfold alikeT; rw [hh]; rfl
      · rw [hh] at this
        exact alike_len all a p b q (by simpa using this)
    go_enter Tryd.func44, Tryd.ntmps44
    go_wp2_with fail
    change Calls _ _ _ ((w.alloc (.cells (cells9 a o1 l1 c1 o2 l2 c2) 30)).alloc (.cells (cells9 b p1 m1 d1 p2 m2 d2) 30)) _
    rw [← hW0]
    refine (HC0.out _ HQ0.out).mono ?_; rintro e w1 ⟨rfl, hq1⟩
    clear hW0
    go_wp2_with fail
    go_ret
    exact ⟨by rw [HF.out]; rfl, HQ0.out.trans hq1⟩
  · have HR2 : Hid (res = p.alike (headB all) q) := by
      show _ = _; rw [HRES.out]
      have h := HHB.out.symm
      rw [Bool.and_eq_true] at h
      unfold alikeT; rw [h.1]; simp
    have hlen : l2 = m2 := by
      have h := HHB.out.symm
      rw [Bool.and_eq_true] at h
      have := HL.out; have := HL'.out; have := h.2; simp at this; omega
    subst hlen
    clear HRES HHB
    go_enter Tryd.func44, Tryd.ntmps44
    go_wp2_with fail
    change Calls _ _ _ ((w.alloc (.cells (cells9 a o1 l1 c1 o2 l2 c2) 30)).alloc (.cells (cells9 b p1 m1 d1 p2 l2 d2) 30)) _
    rw [← hW0]
    refine (HC0.out _ HQ0.out).mono ?_; rintro e w1 ⟨rfl, hq1⟩
    have HQ1 := Lib.hid hq1
    clear hW0 hq1
    go_wp2_with fail
    generalize w.heap.size = nb at *
    go_loopw [7] (fun t wr => ∃ (i : Nat), t = .int .i64 i ∧ i ≤ l2 ∧ res = (p.drop i).alike (headB all) (q.drop i) ∧ Quiet0 W0 wr) (fun t _ => l2 - (intOf t).toNat)
    case atStart => exact ⟨0, rfl, Nat.zero_le _, by rw [To.drop_zero, To.drop_zero]; exact HR2.out, HQ1.out⟩
    case round =>
      obtain ⟨i, rfl, hi, hr, hq⟩ := hrel
      have HR := Lib.hid hr
      have HQ := Lib.hid hq
      obtain ⟨g1, g2⟩ := HBB.out wr hq
      clear hr hq
      by_cases hlt : i < l2
      · have hlt' : (i : Int) < l2 := by omega
        obtain ⟨b1, off1, hd1, qs1, x1, y1, z1, x2, y2, z2, rfl, hdr1, hg1, hR1, ⟨e0, e1, e2, e3, e4, e5, e6, e7, e8⟩, hsl1, hts1⟩ := (HS.out.stay (HQ0.out.trans HQ.out)).nth hlt
        obtain ⟨b2, off2, hd2, qs2, u1, v1, t1, u2, v2, t2, rfl, hdr2, hg2, hR2, ⟨f0, f1, f2, f3, f4, f5, f6, f7, f8⟩, hsl2, hts2⟩ := (HS'.out.stay (HQ0.out.trans HQ.out)).nth hlt
        have HC := Lib.hid (fun (W : World) (hq : Quiet0 wr W) => IH.out i hd1 qs1 hg1 hd2 qs2 W x1 y1 z1 x2 y2 z2 u1 v1 t1 u2 v2 t2 R (hsl1.stay hq) (hts1.stay hq) (hsl2.stay hq) (hts2.stay hq))
        have HN : Hid (res = (alikeT all hd1 qs1 hd2 qs2 && (p.drop (i + 1)).alike (headB all) (q.drop (i + 1)))) := by
          show _ = _
          rw [HR.out, hdr1, hdr2, alike_cons]
        unfold tmv at HC
        clear hdr1 hg1 hsl1 hts1 hdr2 hg2 hsl2 hts2 hR1 hR2
        cases hbv : alikeT all hd1 qs1 hd2 qs2
        all_goals
          have HBV := Lib.hid hbv
          clear hbv
          go_wp2_with fail
          refine wp_region_still_tail 11 (by kernel_rfl) (by kernel_rfl) ?_
          simp only [List.take_succ_cons, List.take_zero, List.drop_succ_cons, List.drop_zero]
          change wpStill _ _ (World.drew wr) _ _ _
          repeat still_step
          refine wpStill_nil ?_
          change wpList _ _ _ _ _ (World.drew wr)
          go_wp2_with fail
          refine (HC.out _ (Quiet0.drew _)).mono ?_; rintro e w1 ⟨rfl, hq1⟩
          rw [HBV.out]
          have HQ1 := Lib.hid ((HQ.out.trans (Quiet0.drew _)).trans hq1)
          clear hq1
          go_wp2_with fail
        · go_ret
          exact ⟨by rw [HN.out, HBV.out]; rfl, HQ0.out.trans HQ1.out⟩
        · go_roundw
          case rel => exact ⟨i + 1, by go_num, by omega, by rw [HN.out, HBV.out]; rfl, HQ1.out⟩
          case measure => simp [intOf]; omega
      · have hlt' : ¬ (i : Int) < l2 := by omega
        have HY : Hid (res = true) := by
          show _ = _
          rw [HR.out, To.drop_end p i (by have := HL.out; omega), To.drop_end q i (by have := HL'.out; omega)]; rfl
        go_wp2_with fail
        go_ret
        exact ⟨by rw [HY.out]; rfl, HQ0.out.trans HQ.out⟩
end Go.Proofs.YtnfodiedalhlhaaDoor
end
section
namespace Go.Proofs.YtnfodiedalhlhaaDoor
namespace Sc
def stripH (h : Nd) : Nd := { h with fr := 0, en := 0, nm := if bindK h.k then ByteArray.empty else h.nm }
def stripF : To → To
  | .nil => .nil
  | .cons h ps r => .cons (stripH h) (stripF ps) (stripF r)
theorem stripF_length : ∀ f : To, (stripF f).length = f.length
  | .nil => rfl
  | .cons h ps r => by simp [stripF, To.length, stripF_length r]
def namedK (k : Int) : Bool := k == 1 || bindK k
def okF : To → Prop
  | .nil => True
  | .cons h ps r => (h.k = 1 → ps = .nil) ∧ (namedK h.k = false → h.nm = ByteArray.empty) ∧ okF ps ∧ okF r
abbrev bareR (bk : Int) (nm : ByteArray) (i : Nat) (e : List ByteArray) (f : To) : To := stripF (wk (σ := Unit) (fun s _ _ => s) brO bk nm i () e f).2
theorem bare_cons (bk : Int) (nm : ByteArray) (i : Nat) (e : List ByteArray) (h : Nd) (ps r : To) : bareR bk nm i e (.cons h ps r) =
    .cons (stripH (if h.k = 1 then brO h (envOf bk nm i e) else h)) (if h.k = 1 then stripF ps else bareR h.k h.nm 0 (envOf bk nm i e) ps) (bareR bk nm (i + 1) e r) := by
  unfold bareR
  rw [wk_cons]
  unfold wk1
  by_cases hk : h.k = 1
  · simp only [if_pos hk, stripF]
  · simp only [if_neg hk, stripF]
def refAR : Int → ByteArray → Int → ByteArray → Nat → List ByteArray → List ByteArray → To → To → Bool
  | _, _, _, _, _, _, _, .nil, .nil => true
  | bk, nm, bk', nm', i, x, y, .cons h ps r, .cons h' ps' r' =>
    ((h.k == h'.k) && (ps.length == ps'.length) && sameT h.tk h.tn h.tp h'.tk h'.tn h'.tp &&
      (if h.k = 1 then (ix (envOf bk nm i x) h.nm == ix (envOf bk' nm' i y) h'.nm) && (decide (0 ≤ ix (envOf bk nm i x) h.nm) || h.nm.toList == h'.nm.toList)
        else (h.n == h'.n) && refAR h.k h.nm h'.k h'.nm 0 (envOf bk nm i x) (envOf bk' nm' i y) ps ps')) && refAR bk nm bk' nm' (i + 1) x y r r'
  | _, _, _, _, _, _, _, _, _ => false
def refA1 (x y : List ByteArray) (h : Nd) (ps : To) (h' : Nd) (ps' : To) : Bool :=
  (h.k == h'.k) && (ps.length == ps'.length) && sameT h.tk h.tn h.tp h'.tk h'.tn h'.tp &&
      (if h.k = 1 then (ix x h.nm == ix y h'.nm) && (decide (0 ≤ ix x h.nm) || h.nm.toList == h'.nm.toList)
        else (h.n == h'.n) && refAR h.k h.nm h'.k h'.nm 0 x y ps ps')
theorem refAR_cons (bk : Int) (nm : ByteArray) (bk' : Int) (nm' : ByteArray) (i : Nat) (x y : List ByteArray) (h : Nd) (ps r : To) (h' : Nd) (ps' r' : To) :
    refAR bk nm bk' nm' i x y (.cons h ps r) (.cons h' ps' r') = (refA1 (envOf bk nm i x) (envOf bk' nm' i y) h ps h' ps' && refAR bk nm bk' nm' (i + 1) x y r r') := rfl
theorem refAR_length : ∀ (f g : To) (bk : Int) (nm : ByteArray) (bk' : Int) (nm' : ByteArray) (i : Nat) (x y : List ByteArray), refAR bk nm bk' nm' i x y f g = true → f.length = g.length
  | .nil, .nil, _, _, _, _, _, _, _, _ => rfl
  | .nil, .cons _ _ _, _, _, _, _, _, _, _, h => by simp [refAR] at h
  | .cons _ _ _, .nil, _, _, _, _, _, _, _, h => by simp [refAR] at h
  | .cons h ps r, .cons h' ps' r', bk, nm, bk', nm', i, x, y, e => by
    rw [refAR_cons, Bool.and_eq_true] at e
    simp only [To.length]
    rw [refAR_length r r' _ _ _ _ _ _ _ e.2]
theorem bare_alike : ∀ (f g : To) (bk : Int) (nm : ByteArray) (bk' : Int) (nm' : ByteArray) (i : Nat) (x y : List ByteArray), okF f → okF g →
    (bareR bk nm i x f).alike (headB true) (bareR bk' nm' i y g) = refAR bk nm bk' nm' i x y f g
  | .nil, .nil, _, _, _, _, _, _, _, _, _ => rfl
  | .nil, .cons _ _ _, _, _, _, _, _, _, _, _, _ => by rw [bare_cons]; rfl
  | .cons _ _ _, .nil, _, _, _, _, _, _, _, _, _ => by rw [bare_cons]; rfl
  | .cons h ps r, .cons h' ps' r', bk, nm, bk', nm', i, x, y, hf, hg => by
    obtain ⟨f1, f2, f3, f4⟩ := hf
    obtain ⟨g1, g2, g3, g4⟩ := hg
    rw [bare_cons, bare_cons, refAR_cons]
    simp only [To.alike]
    rw [bare_alike r r' bk nm bk' nm' (i + 1) x y f4 g4]
    congr 1
    unfold refA1
    generalize envOf bk nm i x = ex
    generalize envOf bk' nm' i y = ey
    cases hk : (h.k == h'.k)
    · have : ∀ a b : Nd, a.k = h.k → b.k = h'.k → headB true a b = false := fun a b ha hb => by unfold headB; rw [ha, hb, hk]; rfl
      rw [this]
      · rfl
      · show (stripH _).k = _; unfold stripH; split <;> rfl
      · show (stripH _).k = _; unfold stripH; split <;> rfl
    · have hk' : h.k = h'.k := by simpa using hk
      by_cases h1 : h.k = 1
      · have h1' : h'.k = 1 := by rw [← hk']; exact h1
        rw [f1 h1, g1 h1']
        simp only [if_pos h1, if_pos h1', stripF, To.alike, To.length]
        unfold headB stripH brO
        have hb : bindK h.k = false := by rw [h1]; rfl
        have hb' : bindK h'.k = false := by rw [h1']; rfl
        simp only [hb, hb', Bool.false_eq_true, if_false, hk, Bool.true_and, beq_self_eq_true, if_true, Bool.and_true]
        generalize sameT h.tk h.tn h.tp h'.tk h'.tn h'.tp = sb
        by_cases hi : ix ex h.nm = ix ey h'.nm
        · rw [hi]
          by_cases h0 : 0 ≤ ix ey h'.nm
          · simp [h0]
          · simp only [beq_self_eq_true, Bool.true_and, h0, decide_false, Bool.false_or, Bool.and_true]
            exact Bool.and_comm _ _
        · have : (ix ex h.nm == ix ey h'.nm) = false := by simpa using hi
          simp [this]
      · have h1' : ¬ h'.k = 1 := by rw [← hk']; exact h1
        simp only [if_neg h1, if_neg h1']
        rw [bare_alike ps ps' h.k h.nm h'.k h'.nm 0 ex ey f3 g3]
        have hn : ((stripH h).nm.toList == (stripH h').nm.toList) = true := by
          have : (stripH h).nm = (stripH h').nm := by
            unfold stripH
            simp only
            cases hb : bindK h.k
            · have hb' : bindK h'.k = false := by rw [← hk']; exact hb
              have n1 : namedK h.k = false := by unfold namedK; rw [hb]; simp [h1]
              have n2 : namedK h'.k = false := by unfold namedK; rw [hb']; simp [h1']
              rw [hb', f2 n1, g2 n2]
            · have hb' : bindK h'.k = true := by rw [← hk']; exact hb
              rw [hb']; rfl
          rw [this]; simp
        unfold headB
        rw [hn]
        have e1 : (stripH h).k = h.k := rfl
        have e2 : (stripH h').k = h'.k := rfl
        have e3 : (stripH h).n = h.n := rfl
        have e4 : (stripH h').n = h'.n := rfl
        rw [e1, e2, e3, e4, hk]
        simp only [Bool.true_and, if_true]
        show (((h.n == h'.n) && ((0 : Int) == 0 && (0 : Int) == 0)) && sameT h.tk h.tn h.tp h'.tk h'.tn h'.tp && _) = _
        simp only [beq_self_eq_true, Bool.and_true]
        generalize sameT h.tk h.tn h.tp h'.tk h'.tn h'.tp = sb
        cases hr : refAR h.k h.nm h'.k h'.nm 0 ex ey ps ps'
        · simp
        · have := refAR_length _ _ _ _ _ _ _ _ _ hr
          rw [this]
          simp [Bool.and_comm]
end Sc
end Go.Proofs.YtnfodiedalhlhaaDoor
end
