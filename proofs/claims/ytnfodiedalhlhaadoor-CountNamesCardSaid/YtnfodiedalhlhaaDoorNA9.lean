/-
  Texts laid together (CnUses): laws and walks, with their conditions in their statements.
-/
import Derived.Test.YtnfodiedalhlhaaDoorNA8
section
namespace Go.Proofs.YtnfodiedalhlhaaDoor
open Go.RowKit Go.Shelf
namespace Cn
def UsT (h : Nd) (ps : To) : Prop := ∀ (W : World) (R T : Nat → Prop) (ob wb : Nat) (oo : Option Addr) (oc : Nat) (o1 : Option Addr) (l1 c1 : Nat) (o2 : Option Addr) (l2 c2 : Nat) (eo : Option Addr) (en ec : Nat) (e : Env) (out : List Int) (m : Nat), TSlc R W o2 l2 ps → BnIn T W eo en e → en ≤ ec → en + ps.size ≤ 100000 → EnvP e out.length → OutB out m → m + ps.size + 1 ≤ 900000 → out.length + ps.size + 1 ≤ 900000 → UsW ob wb out oo oc W →
  (∀ k, R k → k < W.heap.size ∧ k ≠ ob ∧ (Value.slice oo out.length oc).ownBlock ≠ some k) → (∀ k, T k → k < W.heap.size ∧ k ≠ ob ∧ (Value.slice oo out.length oc).ownBlock ≠ some k) →
  Calls Tryd.prog 61 #[tmv h o1 l1 c1 o2 l2 c2, .slice eo en ec, .pointer (some ⟨ob, 0, none⟩), .pointer (some ⟨wb, 0, none⟩)] W (UsQ ob wb (usesU h ps e out) oo oc out.length W)
theorem usesU_len : ∀ (f : To) (h : Nd) (place i : Nat) (e : Env) (out : List Int), (foldU h place (valsU f) i e out).length ≤ out.length + f.size
  | .nil, h, place, i, e, out => Nat.le_add_right _ _
  | .cons g qs r, h, place, i, e, out => by
    have h1 : (oneU g (valsU qs) (envU h place i e) out).length ≤ out.length + qs.size + 1 := by
      unfold oneU
      split
      · rw [varU_length]; omega
      · have h2 := usesU_len qs g out.length 0 (envU h place i e) (openU g out)
        have h3 : (openU g out).length ≤ out.length + 1 := by unfold openU; split <;> simp
        omega
    have h2 := usesU_len r h place (i + 1) e (oneU g (valsU qs) (envU h place i e) out)
    show (foldU h place (valsU r) (i + 1) e (oneU g (valsU qs) (envU h place i e) out)).length ≤ _
    simp only [To.size]; omega
theorem usesU_len1 (h : Nd) (ps : To) (e : Env) (out : List Int) : (usesU h ps e out).length ≤ out.length + ps.size + 1 := by
  unfold usesU oneU
  split
  · rw [varU_length]; omega
  · have h2 := usesU_len ps h out.length 0 e (openU h out)
    have h3 : (openU h out).length ≤ out.length + 1 := by unfold openU; split <;> simp
    omega
structure UsL (ob wb B : Nat) (h : Nd) (ps : To) (o1 : Option Addr) (l1 c1 : Nat) (o2 : Option Addr) (l2 c2 : Nat) (e : Env) (out : List Int) (m : Nat) (oo0 : Option Addr) (n0 oc0 : Nat) (w : World) (fin : List Int) (i : Nat) (oo : Option Addr) (oc : Nat) (out' : List Int) (wr : World) : Prop where
  u : UsW ob wb out' oo oc wr
  f : foldU h out.length ((valsU ps).drop i) i e out' = fin
  b : wr.heap[B]? = some (.cells (cells9 h o1 l1 c1 o2 l2 c2) 30 (0, 0))
  fr : Fr (fun k => k = ob ∨ (Value.slice oo0 n0 oc0).ownBlock = some k) w wr
  nw : ∀ k, (Value.slice oo out'.length oc).ownBlock = some k → (Value.slice oo0 n0 oc0).ownBlock = some k ∨ w.heap.size ≤ k
  nb : ∀ k, (Value.slice oo out'.length oc).ownBlock = some k → k ≠ B
  le : out.length ≤ out'.length
  pl : Sc.bindK h.k = true → out.length < out'.length
  bd : OutB out' (m + (ps.size - (ps.drop i).size))
  ln : out'.length ≤ out.length + 1 + (ps.size - (ps.drop i).size)
theorem UsL.next {ob wb B : Nat} {h : Nd} {ps : To} {o1 : Option Addr} {l1 c1 : Nat} {o2 : Option Addr} {l2 c2 : Nat} {e : Env} {out : List Int} {m : Nat} {oo0 : Option Addr} {n0 oc0 : Nat} {w : World} {fin : List Int} {i : Nat} {oo : Option Addr} {oc : Nat} {out' : List Int} {wr : World} (k : UsL ob wb B h ps o1 l1 c1 o2 l2 c2 e out m oo0 n0 oc0 w fin i oo oc out' wr) (he : EnvP e out.length) {g : Nd} {qs : To} (hg : ps.get i = some (g, qs)) (hdr : ps.drop i = .cons g qs (ps.drop (i + 1))) (hBo : B ≠ ob) {wx wy : World} (hq : Quiet0 wr wx) {x : Ending}
    (hr : UsQ ob wb (usesU g qs (envU h out.length i e) out') oo oc out'.length wx x wy) : ∃ oo2 oc2, UsL ob wb B h ps o1 l1 c1 o2 l2 c2 e out m oo0 n0 oc0 w fin (i + 1) oo2 oc2 (usesU g qs (envU h out.length i e) out') wy := by
  obtain ⟨_, oo2, oc2, hu, hf, hn⟩ := hr
  have hbl := lt_of_block k.b
  have hwz := k.fr.size
  have hqz := hq.size
  have hds := To.size_drop ps i
  have hdz : (ps.drop i).size = qs.size + 1 + (ps.drop (i + 1)).size := by rw [hdr]; simp only [To.size] <;> omega
  have hgd := usesU_good g qs (envU h out.length i e) out' _ (envU_p (he.mono k.le) (fun hb => k.pl (bindsB_K hb))) k.bd
  have hln := usesU_len1 g qs (envU h out.length i e) out'
  refine ⟨oo2, oc2, hu, ?_, ?_, ?_, ?_, ?_, Nat.le_trans k.le hgd.1, fun hb => Nat.lt_of_lt_of_le (k.pl hb) hgd.1, hgd.2.mono (by omega), by have := k.ln; omega⟩
  · rw [← foldU_drop h out.length (valsU ps) i (usesU g qs) e out' (valsU_get ps i g qs hg)]; exact k.f
  · exact blk_fr hf (fun h => h.elim hBo (fun h => k.nb _ h rfl)) (blk_after hq k.b)
  · exact (k.fr.trans hq.fr).trans' hf (fun j hj h => by
      rcases h with h | h
      · exact .inl h
      · rcases k.nw j h with h' | h'
        · exact .inr h'
        · omega)
  · intro j hj
    rcases hn j hj with h | h
    · exact k.nw j h
    · exact .inr (by omega)
  · intro j hj hjB
    rcases hn j hj with h | h
    · exact k.nb j h hjB
    · omega
theorem UsL.call {ob wb B : Nat} {h : Nd} {ps : To} {o1 : Option Addr} {l1 c1 : Nat} {o2 : Option Addr} {l2 c2 : Nat} {e : Env} {out : List Int} {m : Nat} {oo0 : Option Addr} {n0 oc0 : Nat} {w : World} {fin : List Int} {i : Nat} {oo : Option Addr} {oc : Nat} {out' : List Int} {wr : World} (k : UsL ob wb B h ps o1 l1 c1 o2 l2 c2 e out m oo0 n0 oc0 w fin i oo oc out' wr) (he : EnvP e out.length) {g : Nd} {qs : To} (hg : ps.get i = some (g, qs)) (hdr : ps.drop i = .cons g qs (ps.drop (i + 1))) (hBo : B ≠ ob) (ih : UsT g qs) {R T : Nat → Prop} (hob : ob < w.heap.size)
    (hR : ∀ k, R k → k < w.heap.size ∧ k ≠ ob ∧ (Value.slice oo0 n0 oc0).ownBlock ≠ some k) (hT : ∀ k, T k → (k < w.heap.size ∧ k ≠ ob ∧ (Value.slice oo0 n0 oc0).ownBlock ≠ some k) ∨ wr.heap.size ≤ k) (hz1 : m + ps.size + 1 ≤ 900000) (hz2 : out.length + ps.size + 1 ≤ 900000)
    {wx : World} (hq : Quiet0 wr wx) {p1 : Option Addr} {m1 d1 : Nat} {p2 : Option Addr} {m2 d2 : Nat} (hs : TSlc R wx p2 m2 qs) {eo : Option Addr} {en ec : Nat} (hb : BnIn T wx eo en (envU h out.length i e)) (hc : en ≤ ec) (hen : en + qs.size ≤ 100000) :
    Calls Tryd.prog 61 #[tmv g p1 m1 d1 p2 m2 d2, .slice eo en ec, .pointer (some ⟨ob, 0, none⟩), .pointer (some ⟨wb, 0, none⟩)] wx fun x wy => (∃ v, x = .returned v) ∧ (∃ oo2 oc2, UsL ob wb B h ps o1 l1 c1 o2 l2 c2 e out m oo0 n0 oc0 w fin (i + 1) oo2 oc2 (usesU g qs (envU h out.length i e) out') wy) ∧ Fr (fun k => k = ob ∨ (Value.slice oo out'.length oc).ownBlock = some k) wx wy := by
  have hwz := k.fr.size
  have hqz := hq.size
  have hlt := k.u.lt
  have hds := To.size_drop ps i
  have hdz : (ps.drop i).size = qs.size + 1 + (ps.drop (i + 1)).size := by rw [hdr]; simp only [To.size] <;> omega
  have hln := k.ln
  refine (ih wx R (fun j => T j ∧ j < wx.heap.size) ob wb oo oc p1 m1 d1 p2 m2 d2 eo en ec (envU h out.length i e) out' _ hs (hb.mono (fun j hj ht => ⟨ht, hj⟩)) hc hen (envU_p (he.mono k.le) (fun hb => k.pl (bindsB_K hb))) k.bd (by omega) (by omega) (k.u.stay hq) ?_ ?_).mono ?_
  · intro j hj
    obtain ⟨h1, h2, h3⟩ := hR j hj
    exact ⟨by omega, h2, fun h => by
      rcases k.nw j h with h' | h'
      · exact h3 h'
      · omega⟩
  · rintro j ⟨hj, hjx⟩
    rcases hT j hj with ⟨h1, h2, h3⟩ | h1
    · exact ⟨hjx, h2, fun h => by
        rcases k.nw j h with h' | h'
        · exact h3 h'
        · omega⟩
    · exact ⟨hjx, by omega, fun h => by have := hlt j h; omega⟩
  · intro x wy hr
    refine ⟨hr.1, k.next he hg hdr hBo hq hr, ?_⟩
    obtain ⟨_, _, _, _, hf, _⟩ := hr
    exact hf
def BnQ (W1 W : World) (n : Nat) (e : Env) (x : Ending) (w' : World) : Prop := ∃ wo wc, x = .returned (.slice wo n wc) ∧ BnIn (fun k => W1.heap.size ≤ k) w' wo n e ∧ n ≤ wc ∧ Quiet0 W w'
theorem withQ (T : Nat → Prop) (e e' : Env) (s : ByteArray) (v : Int) (o : Option Addr) (n c : Nat) (W1 w : World) (hq : W1.heap.size ≤ w.heap.size) (h : BnIn T w o n e) (hc : n ≤ c) (hn : n ≤ 900000) (he : e' = (s, v) :: e) :
    Calls Tryd.prog 63 #[.slice o n c, .string s, .int .i64 v] w (BnQ W1 w (n + 1) e') := by
  subst he
  have hl := h.1
  refine (with_any T e s v o n c w h hc hn).mono ?_
  rintro x w' ⟨wo, wc, rfl, hb, hcap, hq'⟩
  rw [List.length_cons, ← hl] at *
  exact ⟨wo, wc, rfl, hb.mono (fun k _ hk => by omega), hcap, hq'⟩
set_option maxRecDepth 100000 in
set_option maxHeartbeats 8000000 in
theorem uses_any (h : Nd) (ps : To) : UsT h ps := by
  refine To.ind' (T := UsT) ?_ h ps
  intro h ps ih w R T ob wb oo oc o1 l1 c1 o2 l2 c2 eo en ec e out m hs hBn hec hz he ho hm hol hU hR hT
  by_cases hk : h.k = 1
  · exact uses_var h ps hk w T ob wb o1 l1 c1 o2 l2 c2 eo en ec e out oo oc m hBn (by omega) he ho (by omega) (by omega) hU (fun k hk => (hT k hk).2.2)
  have k1 : (h.k == 1) = false := by simp [hk]
  have HV : Hid (usesU h ps e out = foldU h out.length (valsU ps) 0 e (openU h out)) := by show oneU h _ e out = _; unfold oneU; rw [if_neg hk]
  obtain ⟨fin, hfin⟩ : ∃ fin, foldU h out.length (valsU ps) 0 e (openU h out) = fin := ⟨_, rfl⟩
  rw [HV.out, hfin]
  have HFIN := Lib.hid hfin
  have hll := To.length_le ps
  rw [← hs.1] at hll
  have hobl := lt_of_block hU.o
  have hwbl := lt_of_block hU.w
  have HOWN := Lib.hid hU.lt
  obtain ⟨W0, hW0⟩ : ∃ W0, W0 = w.alloc (.cells (cells9 h o1 l1 c1 o2 l2 c2) 30) := ⟨_, rfl⟩
  have hq0 : Quiet0 w W0 := by rw [hW0]; exact Quiet0.alloc _ _
  have HQ0 := Lib.hid hq0
  have HB0 : Hid (W0.heap[w.heap.size]? = some (.cells (cells9 h o1 l1 c1 o2 l2 c2) 30 (0, 0))) := by show _ = _; rw [hW0]; exact heap_alloc_new w _
  have HZ0 : Hid (W0.heap.size = w.heap.size + 1) := by show _ = _; rw [hW0]; simp
  have HU0 := Lib.hid (hU.stay hq0)
  have HS := Lib.hid hs
  have HBN := Lib.hid hBn
  have HEE := Lib.hid he
  have HOB := Lib.hid ho
  have HRR := Lib.hid hR
  have HTT := Lib.hid hT
  have IH := Lib.hid ih
  have HEC := Lib.hid hec
  have HEN := Lib.hid hBn.1
  have HL := Lib.hid hs.1
  clear hk HV hfin hs hBn he ho hU hR hT ih hec hq0
  unfold tmv
  go_enter Tryd.func61, Tryd.ntmps61
  go_upto_region 1 with fail
  rw [← hW0]
  clear hW0
  generalize hBB : w.heap.size = B at *
  have HBE := Lib.hid hBB
  clear hBB
  obtain ⟨a0, a1, a2, a3, a4, a5, a6, a7, a8⟩ := cells9_block HB0.out
  go_upto_region 6 with fail
  go_cut [8] (fun v wx => v = .bool (Sc.bindK h.k) ∧ W0 = wx)
  case first =>
    have HBK : Hid (Sc.bindK h.k = (h.k == 4 || h.k == 6 || h.k == 7)) := rfl
    cases h4 : (h.k == 4)
    · cases h6 : (h.k == 6)
      · cases h7 : (h.k == 7)
        · go_wp2_with fail
          go_meet
          exact ⟨by rw [HBK.out, h4, h6, h7]; rfl, rfl⟩
        · go_wp2_with fail
          go_meet
          exact ⟨by rw [HBK.out, h4, h6, h7]; rfl, rfl⟩
      · go_wp2_with fail
        go_meet
        exact ⟨by rw [HBK.out, h4, h6]; rfl, rfl⟩
    · go_wp2_with fail
      go_meet
      exact ⟨by rw [HBK.out, h4]; rfl, rfl⟩
  case rest =>
    obtain ⟨rfl, rfl⟩ := hcut
    have co := cell_of_one HU0.out.o
    go_upto_if 46 with fail
    obtain ⟨bk, hbk⟩ : ∃ bk, Sc.bindK h.k = bk := ⟨_, rfl⟩
    rw [hbk]
    have HBKK := Lib.hid hbk
    clear hbk
    go_cut [46] (fun _ wx => ∃ (oo' : Option Addr) (oc' : Nat), UsL ob wb B h ps o1 l1 c1 o2 l2 c2 e out m oo out.length oc w fin 0 oo' oc' (openU h out) wx)
    case first =>
      cases bk
      case false =>
        have HE : Hid (openU h out = out) := by show _ = _; unfold openU; rw [HBKK.out]; rfl
        have HKB := Lib.hid HBKK.out
        go_wp2_with fail
        go_meet
        refine ⟨oo, oc, ?_⟩
        have hfi := HFIN.out
        rw [HE.out] at hfi ⊢
        exact ⟨HU0.out, by rw [List.drop_zero]; exact hfi, HB0.out, HQ0.out.fr, fun k hk => .inl hk, fun k hk h => by have := HOWN.out k hk; have := HBE.out; omega, Nat.le_refl _, (fun h => by rw [HKB.out] at h; cases h), by rw [To.drop_zero, Nat.sub_self]; exact HOB.out, by omega⟩
      case true =>
        have HE : Hid (openU h out = out ++ [0]) := by show _ = _; unfold openU; rw [HBKK.out]; rfl
        have HKB := Lib.hid HBKK.out
        have zo := free_of_one HU0.out.o
        generalize hn : out.length = n at *
        have HNN := Lib.hid hn
        clear hn
        have hown0 : W0.ownsRow 0 3 1 (.slice oo n oc) n (intsV out) := by have := HU0.out.row; rw [HNN.out] at this; exact this
        have HOR := Lib.hid hown0
        clear hown0
        go_wp2_with (at_builtin; go_must (refine wpList_append_one W0 rfl (.tmp 47) (.tmp 48) 55 rfl 3 _ 1 8 elemInt (.slice oo n oc) n (intsV out) rfl HOR.out #[.int .i64 0] rfl rfl (by simp [Value.oneCell']) (by unfold maxLen; omega) (by omega) ?_))
        intro g2 c' w4 ho4 hf4 hg4
        have hgob : ob ≠ g2 := fun h => by
          rcases hg4 with h' | h'
          · exact HU0.out.n1 (by rw [HNN.out, h]; exact h')
          · have := HZ0.out; omega
        have hgwb : wb ≠ g2 := fun h => by
          rcases hg4 with h' | h'
          · exact HU0.out.n2 (by rw [HNN.out, h]; exact h')
          · have := HZ0.out; omega
        have hgB : B ≠ g2 := fun h => by
          rcases hg4 with h' | h'
          · have := HOWN.out _ h'; have := HBE.out; omega
          · have := HZ0.out; omega
        have hob4 := blk_fr hf4 (fun h => HU0.out.n1 (by rw [HNN.out]; exact h)) HU0.out.o
        have hwb4 := blk_fr hf4 (fun h => HU0.out.n2 (by rw [HNN.out]; exact h)) HU0.out.w
        have hB4 := blk_fr hf4 (fun h => by have := HOWN.out _ h; have := HBE.out; omega) HB0.out
        have hfs := Fr.setCell (fun k => k = ob) w4 ⟨ob, 0, none⟩ (.slice (some ⟨g2, 0, none⟩) (n + 1) c') rfl
        have HUN : Hid (UsW ob wb (out ++ [0]) (some ⟨g2, 0, none⟩) c' (w4.setCell ⟨ob, 0, none⟩ (.slice (some ⟨g2, 0, none⟩) (n + 1) c'))) := by
          have hl : (out ++ [(0 : Int)]).length = n + 1 := by simp [HNN.out]
          refine ⟨by rw [hl]; exact one_setCell hob4, blk_fr hfs (fun h => HU0.out.n3 h.symm) hwb4, ?_, by rw [hl]; exact fun h => by simp [Value.ownBlock] at h; exact hgob h.symm, by rw [hl]; exact fun h => by simp [Value.ownBlock] at h; exact hgwb h.symm, HU0.out.n3⟩
          rw [hl]
          have hr := ownsRow_setCell_other ho4 ⟨ob, 0, none⟩ (.slice (some ⟨g2, 0, none⟩) (n + 1) c') (fun h => hgob (by simp [Value.ownBlock] at h; exact h.symm))
          have he : intsV out ++ #[Value.int .i64 0].toList = intsV (out ++ [0]) := by unfold intsV; simp
          rw [← he]; exact hr
        have HB5 := Lib.hid (blk_fr hfs (by omega) hB4)
        have HF5 : Hid (Fr (fun k => k = ob ∨ (Value.slice oo n oc).ownBlock = some k) w (w4.setCell ⟨ob, 0, none⟩ (.slice (some ⟨g2, 0, none⟩) (n + 1) c'))) := (HQ0.out.fr.trans (hf4.mono (fun k _ h => .inr h))).trans (hfs.mono (fun k _ h => .inl h))
        have HG5 : Hid ((Value.slice oo n oc).ownBlock = some g2 ∨ w.heap.size ≤ g2) := hg4.elim .inl (fun h => .inr (by have := HZ0.out; have := HBE.out; omega))
        have HGB := Lib.hid hgB
        have co4 := cell_of_one hob4
        have zo4 := free_of_one hob4
        clear ho4 hf4 hg4 hgob hgwb hgB hob4 hwb4 hB4 hfs co zo
        go_wp2_with fail
        go_meet
        refine ⟨some ⟨g2, 0, none⟩, c', ?_⟩
        have hfi := HFIN.out
        rw [HE.out] at hfi ⊢
        have hl : (out ++ [(0 : Int)]).length = n + 1 := by simp [HNN.out]
        refine ⟨HUN.out, by rw [List.drop_zero, HNN.out]; exact hfi, HB5.out, by rw [← HNN.out] at *; exact HF5.out, ?_, ?_, by rw [hl, HNN.out]; omega, fun _ => by rw [hl, HNN.out]; omega, ?_, by rw [hl, HNN.out]; omega⟩
        · intro k hk
          simp [Value.ownBlock] at hk
          subst hk
          exact HG5.out
        · intro k hk h
          simp [Value.ownBlock] at hk
          subst hk
          exact HGB.out h.symm
        · rw [To.drop_zero, Nat.sub_self]
          have := openU_b (h := h) HOB.out
          rw [HE.out] at this; exact this
    case rest =>
      rename World => wx
      obtain ⟨oo1, oc1, hl0⟩ := hcut
      have HL0 := Lib.hid hl0
      have hb0 := hl0.b
      clear hl0 a0 a1 a2 a3 a4 a5 a6 a7 a8 HU0 co
      obtain ⟨a0, a1, a2, a3, a4, a5, a6, a7, a8⟩ := cells9_block hb0
      clear hb0
      go_wp2_with fail
      clear a0 a1 a2 a3 a4 a5 a6 a7 a8
      go_loopw [53] (fun t wr => ∃ (i : Nat) (oo' : Option Addr) (oc' : Nat) (out' : List Int), t = .int .i64 i ∧ i ≤ l2 ∧ UsL ob wb B h ps o1 l1 c1 o2 l2 c2 e out m oo out.length oc w fin i oo' oc' out' wr) (fun t _ => l2 - (intOf t).toNat)
      case atStart => exact ⟨0, oo1, oc1, openU h out, rfl, Nat.zero_le _, HL0.out⟩
      case round =>
        obtain ⟨i, oo', oc', out', rfl, hi, hst⟩ := hrel
        have HST := Lib.hid hst
        have hwz := hst.fr.size
        clear hst HL0
        by_cases hlt : i < l2
        · have hlt' : (i : Int) < l2 := by omega
          have hl3 : 0 < l2 := by omega
          have hl4 : (l2 : Int) > 0 := by omega
          obtain ⟨b9, off, g, qs, p1, m1, d1, p2, m2, d2, rfl, hdr, hg, hRb, hc9, hsl, hts⟩ := HS.out.nth hlt
          have hdR : ∀ k, R k → ¬ (k = ob ∨ (Value.slice oo out.length oc).ownBlock = some k) := fun k hk h => h.elim (HRR.out k hk).2.1 (HRR.out k hk).2.2
          have hfw := HST.out.fr
          have hc9w := hc9.fr hfw (hdR _ hRb)
          have htsw := hts.fr hfw (T := R) (fun k _ hk => ⟨hk, hdR k hk⟩)
          have hsq := To.size_get ps i g qs hg
          obtain ⟨W1, hW1⟩ : ∃ W1, W1 = wr.alloc (.cells (cells9 g p1 m1 d1 p2 m2 d2) 30) := ⟨_, rfl⟩
          have hq1 : Quiet0 wr W1 := by rw [hW1]; exact Quiet0.alloc _ _
          have HP1 : Hid (Cells9 W1 wr.heap.size 0 g p1 m1 d1 p2 m2 d2) := by show Cells9 _ _ _ _ _ _ _ _ _ _; rw [hW1]; exact cells9_new _ _ _ _ _ _ _ _ _
          have HQ1 := Lib.hid hq1
          have HBW : Hid (wr.heap[B]? = some (.cells (cells9 h o1 l1 c1 (some ⟨b9, off, none⟩) l2 c2) 30 (0, 0))) := HST.out.b
          have HTSW := Lib.hid (htsw.stay hq1)
          have HG := Lib.hid hg
          have HDR := Lib.hid hdr
          have HIH := Lib.hid (IH.out i g qs hg)
          have HBNW : Hid (BnIn T W1 eo en e) := (HBN.out.fr (T' := T) hfw (fun k _ ht => ⟨ht, fun h => h.elim (HTT.out k ht).2.1 (HTT.out k ht).2.2⟩)).stay hq1
          have HWO : Hid (wr.heap[wb]? = some (.cells #[.func (.func 61) #[] #[.pointer (some ⟨ob, 0, none⟩), .pointer (some ⟨wb, 0, none⟩)]] 83 (0, 0))) := HST.out.u.w
          have HBO : Hid (B ≠ ob) := by show _ ≠ _; have := HBE.out; omega
          obtain ⟨a0, a1, a2, a3, a4, a5, a6, a7, a8⟩ := cells9_block HBW.out
          obtain ⟨q0, q1, q2, q3, q4, q5, q6, q7, q8⟩ := hc9w
          have HOBL := Lib.hid hobl
          clear hdr hg hsl hts hc9 htsw hq1 hdR hRb hfw
          go_upto_region 13 with fail
          change Code.wp _ _ _ _ (wr.alloc (.cells (cells9 g p1 m1 d1 p2 m2 d2) 30))
          rw [← hW1]
          clear hW1
          generalize hpb : wr.heap.size = pb at *
          have HPB := Lib.hid hpb
          clear hpb a0 a1 a2 a3 a4 a5 a6 a7 a8 q0 q1 q2 q3 q4 q5 q6 q7 q8
          have HKP : Hid (∀ W, Quiet0 W1 W → W.cell? ⟨wb, 0, none⟩ = some (.func (.func 61) #[] #[.pointer (some ⟨ob, 0, none⟩), .pointer (some ⟨wb, 0, none⟩)]) ∧ W.cell? ⟨B, 0, none⟩ = some (.int .i64 h.k) ∧ W.cell? ⟨B, 1, none⟩ = some (.string h.nm) ∧ (W.cell? ⟨pb, 0, none⟩ = some (.int .i64 g.k) ∧ W.cell? ⟨pb, 1, none⟩ = some (.string g.nm) ∧ W.cell? ⟨pb, 2, none⟩ = some (.int .i64 g.n) ∧ W.cell? ⟨pb, 3, none⟩ = some (.int .i64 g.tk) ∧ W.cell? ⟨pb, 4, none⟩ = some (.int .i64 g.tn) ∧ W.cell? ⟨pb, 5, none⟩ = some (.slice p1 m1 d1) ∧ W.cell? ⟨pb, 6, none⟩ = some (.slice p2 m2 d2) ∧ W.cell? ⟨pb, 7, none⟩ = some (.int .i64 g.fr) ∧ W.cell? ⟨pb, 8, none⟩ = some (.int .i64 g.en))) := fun W hq => by
            have hb := cells9_block (blk_after (HQ1.out.trans hq) HBW.out)
            exact ⟨cell_of_one (blk_after (HQ1.out.trans hq) HWO.out), hb.1, hb.2.1, HP1.out.fr hq (fun h => h)⟩
          obtain ⟨y0, a0, a1, q0, q1, q2, q3, q4, q5, q6, q7, q8⟩ := HKP.out W1 (Quiet0.refl _)
          go_cut [67] (fun v wx => v = .bool (Sc.bindsB h.k i) ∧ W1 = wx)
          case first =>
            have HBB : Hid (Sc.bindsB h.k i = (h.k == 4 || h.k == 7 || (h.k == 6 && i == 1))) := rfl
            have HBK : Hid ((h.k == 4 || h.k == 6 || h.k == 7) = bk) := HBKK.out
            cases bk
            · go_wp2_with fail
              go_meet
              refine ⟨?_, rfl⟩
              have h1 := HBK.out
              rw [HBB.out]
              simp only [Bool.or_eq_false_iff] at h1
              rw [h1.1.1, h1.2, h1.1.2]; rfl
            · cases h6 : (h.k == 6)
              · have h6' : (h.k != 6) = true := by simp only [bne, h6]; rfl
                go_wp2_with fail
                go_meet
                refine ⟨?_, rfl⟩
                have h1 := HBK.out
                rw [h6] at h1
                rw [HBB.out, h6]
                cases h4 : (h.k == 4) <;> cases h7 : (h.k == 7) <;> simp_all
              · have h6' : (h.k != 6) = false := by simp only [bne, h6]; rfl
                have h47 : (h.k == 4) = false ∧ (h.k == 7) = false := by
                  have : h.k = 6 := by simpa using h6
                  rw [this]; decide
                cases h1 : ((i : Int) == 1)
                · have hi1 : (i == 1) = false := by have : ¬ (i : Int) = 1 := by simpa using h1
                                                    simp; omega
                  have hi2 : ((i : Int) == (1 : Int)) = false := h1
                  go_wp2_with fail
                  go_meet
                  exact ⟨by rw [HBB.out, h6, h47.1, h47.2, hi1]; rfl, rfl⟩
                · have hi1 : (i == 1) = true := by have : (i : Int) = 1 := by simpa using h1
                                                   simp; omega
                  go_wp2_with fail
                  go_meet
                  exact ⟨by rw [HBB.out, h6, h47.1, h47.2, hi1]; rfl, rfl⟩
          case rest =>
            obtain ⟨rfl, rfl⟩ := hcut
            cases hbb : Sc.bindsB h.k i
            case false =>
              have HE : Hid (envU h out.length i e = e) := by show _ = _; unfold envU; rw [hbb]; rfl
              have HC := Lib.hid (HST.out.call HEE.out HG.out HDR.out HBO.out HIH.out (T := T) (by rw [HBE.out]; exact HOBL.out) (fun k hk => by rw [HBE.out]; exact HRR.out k hk) (fun k hk => .inl (by rw [HBE.out]; exact HTT.out k hk)) (by omega) (by omega) HQ1.out (p1 := p1) (m1 := m1) (d1 := d1) (d2 := d2) HTSW.out (HE.out.symm ▸ HBNW.out) HEC.out (by omega))
              unfold tmv at HC
              clear hbb
              go_wp2_with fail
              refine HC.out.mono ?_; rintro x wy ⟨⟨v, rfl⟩, ⟨oo2, oc2, hn⟩, _⟩
              have HN := Lib.hid hn
              clear hn a0 a1 q0 q1 q2 q3 q4 q5 q6 q7 q8 y0
              go_wp2_with fail
              go_roundw
              case rel => exact ⟨i + 1, oo2, oc2, _, by go_num, by omega, HN.out⟩
              case measure => simp [intOf]; omega
            case true =>
              have HE : Hid (envU h out.length i e = (h.nm, (out.length : Int)) :: e) := by show _ = _; unfold envU; rw [hbb]; rfl
              obtain ⟨e1, he1⟩ : ∃ e1, envU h out.length i e = e1 := ⟨_, rfl⟩
              have HE1 := Lib.hid he1
              have HWT : Hid (∀ W, Quiet0 W1 W → Calls Tryd.prog 63 #[.slice eo en ec, .string h.nm, .int .i64 out.length] W (BnQ W1 W (en + 1) e1)) := fun W hq => withQ T e e1 h.nm out.length eo en ec W1 W hq.size (HBNW.out.stay hq) HEC.out (by omega) (by rw [← HE1.out, HE.out])
              have HCC : Hid (∀ (W : World) (wo : Option Addr) (wc : Nat), BnIn (fun k => W1.heap.size ≤ k) W wo (en + 1) e1 → en + 1 ≤ wc → Quiet0 W1 W → Calls Tryd.prog 61 #[tmv g p1 m1 d1 p2 m2 d2, .slice wo (en + 1) wc, .pointer (some ⟨ob, 0, none⟩), .pointer (some ⟨wb, 0, none⟩)] W fun x wy => (∃ v, x = .returned v) ∧ (∃ oo2 oc2, UsL ob wb B h ps o1 l1 c1 (some ⟨b9, off, none⟩) l2 c2 e out m oo out.length oc w fin (i + 1) oo2 oc2 (usesU g qs (envU h out.length i e) out') wy) ∧ (wy.cell? ⟨wb, 0, none⟩ = some (.func (.func 61) #[] #[.pointer (some ⟨ob, 0, none⟩), .pointer (some ⟨wb, 0, none⟩)]) ∧ wy.cell? ⟨B, 0, none⟩ = some (.int .i64 h.k) ∧ wy.cell? ⟨B, 1, none⟩ = some (.string h.nm) ∧ (wy.cell? ⟨pb, 0, none⟩ = some (.int .i64 g.k) ∧ wy.cell? ⟨pb, 1, none⟩ = some (.string g.nm) ∧ wy.cell? ⟨pb, 2, none⟩ = some (.int .i64 g.n) ∧ wy.cell? ⟨pb, 3, none⟩ = some (.int .i64 g.tk) ∧ wy.cell? ⟨pb, 4, none⟩ = some (.int .i64 g.tn) ∧ wy.cell? ⟨pb, 5, none⟩ = some (.slice p1 m1 d1) ∧ wy.cell? ⟨pb, 6, none⟩ = some (.slice p2 m2 d2) ∧ wy.cell? ⟨pb, 7, none⟩ = some (.int .i64 g.fr) ∧ wy.cell? ⟨pb, 8, none⟩ = some (.int .i64 g.en)))) := fun W wo wc hb hc hq => by
                refine (HST.out.call HEE.out HG.out HDR.out HBO.out HIH.out (T := fun k => W1.heap.size ≤ k) (by rw [HBE.out]; exact HOBL.out) (fun k hk => by rw [HBE.out]; exact HRR.out k hk) (fun k hk => .inr (by have := HQ1.out.size; omega)) (by omega) (by omega) (HQ1.out.trans hq) (HTSW.out.stay hq) (HE1.out.symm ▸ hb) hc (by omega)).mono ?_
                rintro x wy ⟨hv, ⟨oo2, oc2, hn⟩, hf⟩
                have hcb := cells9_block hn.b
                refine ⟨hv, ⟨oo2, oc2, hn⟩, cell_of_one hn.u.w, hcb.1, hcb.2.1, (HP1.out.fr hq (fun h => h)).fr hf (fun h => ?_)⟩
                rcases h with h | h
                · have := HOBL.out; have := HPB.out; have := lt_of_block HBW.out; omega
                · have := HST.out.u.lt pb h; have := HPB.out; omega
              unfold tmv at HCC
              clear hbb he1
              go_upto_region 14 with fail
              have hqc := Quiet0.refl W1
              go_region_held3 (fun W => W.cell? ⟨wb, 0, none⟩ = some (.func (.func 61) #[] #[.pointer (some ⟨ob, 0, none⟩), .pointer (some ⟨wb, 0, none⟩)]) ∧ W.cell? ⟨B, 0, none⟩ = some (.int .i64 h.k) ∧ W.cell? ⟨B, 1, none⟩ = some (.string h.nm) ∧ (W.cell? ⟨pb, 0, none⟩ = some (.int .i64 g.k) ∧ W.cell? ⟨pb, 1, none⟩ = some (.string g.nm) ∧ W.cell? ⟨pb, 2, none⟩ = some (.int .i64 g.n) ∧ W.cell? ⟨pb, 3, none⟩ = some (.int .i64 g.tk) ∧ W.cell? ⟨pb, 4, none⟩ = some (.int .i64 g.tn) ∧ W.cell? ⟨pb, 5, none⟩ = some (.slice p1 m1 d1) ∧ W.cell? ⟨pb, 6, none⟩ = some (.slice p2 m2 d2) ∧ W.cell? ⟨pb, 7, none⟩ = some (.int .i64 g.fr) ∧ W.cell? ⟨pb, 8, none⟩ = some (.int .i64 g.en)))
                (first | exact hS | ((refine HKP.out _ ?_); (repeat (first | with_reducible exact hqc | with_reducible exact Quiet0.refl _ | with_reducible refine Quiet0.trans ?_ (Quiet0.alloc _ _) | with_reducible refine Quiet0.trans ?_ (Quiet0.drew _) | fail))))
                (first
                  | (go_at_call 63; (with_reducible refine Calls.mono (HWT.out _ ?hq) ?_); (case hq => (repeat (first | with_reducible exact hqc | with_reducible exact Quiet0.refl _ | with_reducible refine Quiet0.trans ?_ (Quiet0.alloc _ _) | with_reducible refine Quiet0.trans ?_ (Quiet0.drew _) | fail))); rintro e wx ⟨wo, wc, rfl, hbn, hcap, hqx⟩; (refine with_q (w0 := W1) ?hq2 hqx ?_); (case hq2 => (repeat (first | with_reducible exact hqc | with_reducible exact Quiet0.refl _ | with_reducible refine Quiet0.trans ?_ (Quiet0.alloc _ _) | with_reducible refine Quiet0.trans ?_ (Quiet0.drew _) | fail))); intro hqc)
                  | ((go_at_call 61; (with_reducible refine Calls.mono (HCC.out _ _ _ (hbn.stay ?h1) hcap ?hq) ?_)); (case h1 => (repeat (first | with_reducible exact Quiet0.refl _ | with_reducible refine Quiet0.trans ?_ (Quiet0.alloc _ _) | with_reducible refine Quiet0.trans ?_ (Quiet0.drew _) | fail))); (case hq => (repeat (first | with_reducible exact hqc | with_reducible exact Quiet0.refl _ | with_reducible refine Quiet0.trans ?_ (Quiet0.alloc _ _) | with_reducible refine Quiet0.trans ?_ (Quiet0.drew _) | fail))); rintro x wy ⟨⟨v, rfl⟩, ⟨oo2, oc2, hn⟩, hS⟩)
                  | fail)
              all_goals
                have HN := Lib.hid hn
                clear hn a0 a1 q0 q1 q2 q3 q4 q5 q6 q7 q8 y0
                go_wp2_with fail
                go_roundw
                case rel => exact ⟨i + 1, oo2, oc2, _, by go_num, by omega, HN.out⟩
                case measure => simp [intOf]; omega
        · have hlt' : ¬ (i : Int) < l2 := by omega
          have hil : i = l2 := by omega
          subst hil
          have HF : Hid (fin = out') := by
            show _ = _
            have h1 := HST.out.f
            rw [List.drop_of_length_le (by rw [valsU_length]; have := HL.out; omega)] at h1
            exact h1.symm
          have HFIN2 : Hid (UsQ ob wb fin oo oc out.length w (.returned (.tuple #[])) wr) := ⟨⟨_, rfl⟩, oo', oc', by rw [HF.out]; exact HST.out.u, HST.out.fr, by rw [HF.out]; exact HST.out.nw⟩
          go_wp2_with fail
          refine bodyPost_ret (by first | (simp [results, Tryd.results61, go_sem]; done) | (simp [results, Tryd.results61, go_sem]; rfl)) rfl ?_
          exact HFIN2.out
end Cn
end Go.Proofs.YtnfodiedalhlhaaDoor
end
