/-
  Texts laid together (ScRBound, ScTmRow, ScRRes, TeApply, TeNth, TeAwake, TeEqual, TeRoom, Law): what each one proves, and its conditions, stands at its head.
-/
import Derived.Deep.RegionLaw
import Derived.Deep.RegionHeld3
import Derived.Deep.RegionWith
import Derived.ProofKit
import Derived.OpenShut
import Derived.Test.YtnfodiedalhlhaaDoorRows
import Derived.Test.YtnfodiedalhlhaaDoorSA1
import Derived.Test.YtnfodiedalhlhaaDoorSA2
import Derived.Test.YtnfodiedalhlhaaDoorSA3
import Derived.Test.YtnfodiedalhlhaaDoorSA4
import Derived.Test.YtnfodiedalhlhaaDoorSA5
import Derived.Test.YtnfodiedalhlhaaDoorSA6
import Derived.Test.YtnfodiedalhlhaaDoorSA7
import Derived.Test.YtnfodiedalhlhaaDoorSA8
import Derived.Test.YtnfodiedalhlhaaDoorSA9
import Derived.Test.YtnfodiedalhlhaaDoorSA10
import Derived.Test.YtnfodiedalhlhaaDoorSA11
import Derived.Test.YtnfodiedalhlhaaDoorSA12
import Derived.Test.YtnfodiedalhlhaaDoorSA13
section
/-
  The document's Bound: the names that bind, in order. Conditions: the term lies in memory as told; there are few.
-/
namespace Go.Proofs.YtnfodiedalhlhaaDoor
open Go.RowKit Go.Shelf
namespace Sc

theorem bound_len : ∀ f : To, (boundL f).length ≤ f.size
  | .nil => Nat.zero_le _
  | .cons h ps r => by
    have h1 := bound_len ps
    have h2 := bound_len r
    simp only [boundL, List.length_append, To.size]
    split
    · simp; omega
    · simp; omega
theorem bound_cons (h : Nd) (ps r : To) : boundL (.cons h ps r) = boundL (.cons h ps .nil) ++ boundL r := by simp [boundL]
def RBoundT (h : Nd) (ps : To) : Prop := ∀ (w : World) (R : Nat → Prop) (o1 : Option Addr) (l1 c1 : Nat) (o2 : Option Addr) (l2 c2 : Nat), TSlc R w o2 l2 ps → ps.size ≤ 100000 →
  Calls Tryd.prog 22 #[tmv h o1 l1 c1 o2 l2 c2] w (StPost w (boundL (.cons h ps .nil)))
set_option maxRecDepth 100000 in
set_option maxHeartbeats 4000000 in
theorem refBound_any (h : Nd) (ps : To) : RBoundT h ps := by
  refine To.ind' (T := RBoundT) ?_ h ps
  intro h ps ih w R o1 l1 c1 o2 l2 c2 hs hsz
  have HS := Lib.hid hs
  have IH := Lib.hid ih
  have hl := hs.1
  have hll := To.length_le ps
  rw [← hl] at hll
  have HL := Lib.hid hl
  obtain ⟨W0, hW0⟩ : ∃ W0, W0 = w.alloc (.cells (cells9 h o1 l1 c1 o2 l2 c2) 30) := ⟨_, rfl⟩
  have HB : Hid (∀ W, Quiet0 W0 W → Cells9 W w.heap.size 0 h o1 l1 c1 o2 l2 c2) := by
    intro W hq; rw [hW0] at hq; exact box9 w h o1 l1 c1 o2 l2 c2 _ W hq
  have HQ0 : Hid (Quiet0 w W0) := by rw [hW0]; exact Quiet0.alloc _ _
  have HZ : Hid (W0.heap.size = w.heap.size + 1) := by show _ = _; rw [hW0]; simp
  obtain ⟨RES, hres⟩ : ∃ RES, RES = boundL (.cons h ps .nil) := ⟨_, rfl⟩
  have HRES := Lib.hid hres
  have hrl := bound_len (.cons h ps .nil)
  rw [← hres] at hrl ⊢
  simp only [To.size] at hrl
  clear hs ih hl hres
  unfold tmv
  go_enter Tryd.func22, Tryd.ntmps22
  go_upto_region 2 with fail
  change Code.wp _ _ _ _ (w.alloc (.cells (cells9 h o1 l1 c1 o2 l2 c2) 30))
  rw [← hW0]
  clear hW0
  generalize hnb : w.heap.size = nb at *
  have HNB := Lib.hid hnb
  clear hnb
  obtain ⟨a0, a1, a2, a3, a4, a5, a6, a7, a8⟩ := HB.out W0 (Quiet0.refl _)
  go_cut [17] (fun v wx => v = .bool (bindK h.k) ∧ W0 = wx)
  case first =>
    cases h4 : (h.k == 4)
    · cases h6 : (h.k == 6)
      · cases h7 : (h.k == 7)
        · go_wp2_with fail
          go_meet
          exact ⟨by unfold bindK; rw [h4, h6, h7]; rfl, rfl⟩
        · go_wp2_with fail
          go_meet
          exact ⟨by unfold bindK; rw [h4, h6, h7]; rfl, rfl⟩
      · go_wp2_with fail
        go_meet
        exact ⟨by unfold bindK; rw [h4, h6]; rfl, rfl⟩
    · go_wp2_with fail
      go_meet
      exact ⟨by unfold bindK; rw [h4]; rfl, rfl⟩
  case rest =>
    obtain ⟨rfl, rfl⟩ := hcut
    clear a0 a2 a3 a4 a5 a6 a7 a8
    go_upto_if 17 with fail
    go_cut [3] (fun v wx => StrRow wx (nb + 1) v (if bindK h.k then [h.nm] else []) ∧ Quiet0 W0 wx)
    case first =>
      cases hb : bindK h.k
      · go_wp2_with fail
        go_meet
        refine ⟨?_, Quiet0.refl _⟩
        first | exact StrRow.nil _ _ | (rw [if_neg (by rw [hb]; simp)]; exact StrRow.nil _ _)
      · go_wp2_with (at_builtin; go_must (refine wpList_append_one W0 rfl (.tmp 18) (.tmp 21) 40 rfl 9 _ 1 16 elemStr (.slice none 0 0) 0 [] rfl (World.ownsRow_nil _ _ _ _) #[.string h.nm] rfl rfl ?c1 ?c2 ?c3 ?_))
        case c1 => simp [Value.oneCell']
        case c2 => unfold maxLen; omega
        case c3 => omega
        intro g4 c4 w4 ho hf4 hg4
        have HR4 : Hid (StrRow w4 (nb + 1) (.slice (some ⟨g4, 0, none⟩) 1 c4) [h.nm]) := StrRow.snoc (StrRow.nil W0 (nb + 1)) ho hg4 (by have := HZ.out; omega)
        have HQ4 : Hid (Quiet0 W0 w4) := hf4.mono (fun k _ h => by simp [Value.ownBlock] at h)
        clear ho hf4 hg4
        go_wp2_with fail
        go_meet
        refine ⟨?_, HQ4.out⟩
        first | exact HR4.out | (rw [if_pos hb]; exact HR4.out)
    case rest =>
      rename Value => v0
      rename World => wx
      obtain ⟨hr0, hq0⟩ := hcut
      obtain ⟨o0, c0, rfl, _, _⟩ := hr0.form
      have HR0 := Lib.hid hr0
      have HQX := Lib.hid hq0
      have HA : Hid ((if bindK h.k then [h.nm] else []) ++ boundL ps = RES) := by show _ = _; rw [HRES.out]; simp [boundL]
      clear hr0 hq0
      generalize (if bindK h.k then [h.nm] else []) = acc0 at *
      have hal : acc0.length ≤ 100001 := by have := congrArg List.length HA.out; simp only [List.length_append] at this; omega
      go_wp2_with fail
      go_loopw [3, 4] (fun s t wr => ∃ (i n c : Nat) (o : Option Addr) (l : List ByteArray), t = .int .i64 i ∧ s = .slice o n c ∧ i ≤ l2 ∧ l.length = n ∧ l ++ boundL (ps.drop i) = RES ∧ StrRow wr (nb + 1) (.slice o n c) l ∧ Quiet0 W0 wr) (fun _ t _ => l2 - (intOf t).toNat)
      case atStart => exact ⟨0, acc0.length, c0, o0, acc0, rfl, rfl, Nat.zero_le _, rfl, by rw [To.drop_zero]; exact HA.out, HR0.out, HQX.out⟩
      case round =>
        obtain ⟨i, n, c, o, l, rfl, rfl, hi, hln, hn, hrow, hq⟩ := hrel
        have hnz : n ≤ 100001 := by
          have := congrArg List.length hn
          simp only [List.length_append] at this
          omega
        have HLN := Lib.hid hln
        have HN := Lib.hid hn
        have HR := Lib.hid hrow
        have HQ := Lib.hid hq
        obtain ⟨a0, a1, a2, a3, a4, a5, a6, a7, a8⟩ := HB.out wr hq
        clear hn hrow hq hln
        by_cases hlt : i < l2
        · have hlt' : (i : Int) < l2 := by omega
          obtain ⟨b, off, hd, qs, p1, m1, d1, p2, m2, d2, rfl, hd1, hg, hRb, ⟨e0, e1, e2, e3, e4, e5, e6, e7, e8⟩, hs1, ht1⟩ := (HS.out.stay (HQ0.out.trans HQ.out)).nth hlt
          have hsq := To.size_get ps i hd qs hg
          have HC := Lib.hid (IH.out i hd qs hg wr R p1 m1 d1 p2 m2 d2 ht1 (by omega))
          have HD : Hid ((l ++ boundL (.cons hd qs .nil)) ++ boundL (ps.drop (i + 1)) = RES) := by
            have := HN.out; rw [hd1, bound_cons] at this; show _ = _; rw [← this, List.append_assoc]
          have hqz : (boundL (.cons hd qs .nil)).length ≤ 100001 := by have := bound_len (.cons hd qs .nil); simp only [To.size] at this; omega
          unfold tmv at HC
          generalize boundL (.cons hd qs .nil) = l' at *
          clear hd1 hg hs1 ht1 hsq hRb a0 a1 a2 a3 a4 a5 a7 a8
          go_wp2_with fail
          refine HC.out.mono ?_; rintro x w1 ⟨v', rfl, hrow1, hq1⟩
          obtain ⟨q, d, rfl, _, hat⟩ := hrow1.form
          have HQ1' := Lib.hid (HQ.out.trans hq1)
          have HR1 := Lib.hid (HR.out.stay hq1)
          have HBZ : Hid (nb + 1 ≤ w1.heap.size) := by have := HQ1'.out.size; have := HZ.out; show _ ≤ _; omega
          have HNW : Hid (∀ j u, (strs l')[j]? = some u → ∃ a, q = some a ∧ w1.cell? (a.add j) = some u) := by
            intro j u hu
            unfold strs at hu
            rw [List.getElem?_map] at hu
            obtain ⟨s, hs, rfl⟩ := Option.map_eq_some_iff.1 hu
            obtain ⟨b', off', rfl, hc⟩ := hat j s hs
            exact ⟨_, rfl, by simpa [Addr.add_lit] using hc⟩
          clear hq1 hrow1 a6 hat
          go_wp2_with (at_builtin; (refine wpList_append_row w1 rfl (.tmp 30) (.tmp 36) 40 rfl 9 _ 1 16 elemStr (.slice o n c) n (strs l) rfl (HLN.out ▸ HR1.out.own) q l'.length d (strs l') rfl (by simp [strs]) HNW.out (by unfold strs; intro u hu; obtain ⟨z, _, rfl⟩ := List.mem_map.1 hu; rfl) (by unfold maxLen; omega) (by omega) ?_); intro o3 c3 w3 ho hf hob hnil)
          have HL3 : Hid ((l ++ l').length = n + l'.length) := by show _ = _; rw [List.length_append, HLN.out]
          have HR3 : Hid (StrRow w3 (nb + 1) (.slice o3 (n + l'.length) c3) (l ++ l')) := by
            refine ⟨?_, ?_⟩
            · rw [HL3.out]; have e : strs (l ++ l') = strs l ++ strs l' := by simp [strs]
              rw [e]; exact ho
            · intro k hk
              rcases hob with h | h
              · exact HR1.out.low k (by rw [← h]; exact hk)
              · rw [h] at hk; cases hk; exact HBZ.out
          have HQ3 : Hid (Quiet0 W0 w3) := Fr.trans' HQ1'.out hf (fun k hk hs => by have := HR1.out.low k hs; have := HZ.out; omega)
          clear ho hf hob hnil
          go_wp2_with fail
          go_roundw
          case rel => exact ⟨i + 1, n + l'.length, c3, o3, _, by go_num, rfl, by omega, HL3.out, HD.out, HR3.out, HQ3.out⟩
          case measure => simp [intOf] <;> omega
        · have hlt' : ¬ (i : Int) < l2 := by omega
          have HE : Hid (l = RES) := by
            have := HN.out
            rw [To.drop_end ps i (by have := HL.out; omega)] at this
            show _ = _
            simpa [boundL] using this
          go_wp2_with fail
          go_ret
          rw [← HE.out]
          exact ⟨_, rfl, ⟨HR.out.own, fun k hk => by have := HR.out.low k hk; have := HNB.out; omega⟩, HQ0.out.trans HQ.out⟩
end Sc
end Go.Proofs.YtnfodiedalhlhaaDoor
end
section
/-
  An owned row of terms in blocks of which something is so. No condition.
-/
namespace Go.Proofs.YtnfodiedalhlhaaDoor
open Go.RowKit
namespace Sc

/-- a row of terms of the call's own, in blocks of which T is so -/
structure TmRowT (w : World) (T : Nat → Prop) (v : Value) (f : To) (xs : List Value) : Prop where
  own : w.ownsRow 0 30 9 v f.length xs
  low : ∀ k, v.ownBlock = some k → T k
  cells : RowT (fun k => T k ∧ v.ownBlock ≠ some k) w xs f
theorem TmRowT.nil (w : World) (T : Nat → Prop) : TmRowT w T (.slice none 0 0) .nil [] := ⟨World.ownsRow_nil _ _ _ _, fun k hk => (by cases hk), rfl⟩
theorem TmRowT.fr {w w' : World} {T : Nat → Prop} {v : Value} {f : To} {xs : List Value} {S : Nat → Prop} (h : TmRowT w T v f xs) (hf : Fr S w w') (hS : ∀ k, T k → ¬ S k) : TmRowT w' T v f xs :=
  ⟨ownsRow_fr h.own hf (fun k hk hs => hS k (h.low k hk) hs), h.low, RowT.fr hf (fun k _ hk => ⟨hk, hS k hk.1⟩) f xs h.cells⟩
theorem TmRowT.stay {w w' : World} {T : Nat → Prop} {v : Value} {f : To} {xs : List Value} (h : TmRowT w T v f xs) (hf : Quiet0 w w') : TmRowT w' T v f xs := h.fr hf (fun _ _ h => h)
theorem TmRowT.lt {w : World} {T : Nat → Prop} {v : Value} {f : To} {xs : List Value} (h : TmRowT w T v f xs) : ∀ k, v.ownBlock = some k → k < w.heap.size := fun k hk => (h.own.lt k hk).2
theorem TmRowT.snoc {W w1 : World} {T : Nat → Prop} {v : Value} {f : To} {xs : List Value} {h : Nd} {ps : To} {o1 : Option Addr} {l1 c1 : Nat} {o2 : Option Addr} {l2 c2 g c : Nat} (hr : TmRowT W T v f xs)
    (hs : SlcIn (fun k => T k ∧ v.ownBlock ≠ some k) W o1 l1 h.tp) (ht : TSlc (fun k => T k ∧ v.ownBlock ≠ some k) W o2 l2 ps)
    (ho : w1.ownsRow 0 30 9 (.slice (some ⟨g, 0, none⟩) (f.length + 1) c) (f.length + 1) (xs ++ (cells9 h o1 l1 c1 o2 l2 c2).toList)) (hf : Fr (fun k => v.ownBlock = some k) W w1) (hg : v.ownBlock = some g ∨ W.heap.size ≤ g) (hT : ∀ k, W.heap.size ≤ k → T k) :
    TmRowT w1 T (.slice (some ⟨g, 0, none⟩) (f.length + 1) c) (f.app (.cons h ps .nil)) (xs ++ (cells9 h o1 l1 c1 o2 l2 c2).toList) := by
  refine ⟨by rw [To.app_length]; exact ho, ?_, ?_⟩
  · intro k hk
    simp [Value.ownBlock] at hk
    subst hk
    rcases hg with h | h
    · exact hr.low g h
    · exact hT _ h
  · have hk : ∀ k, k < W.heap.size → (T k ∧ v.ownBlock ≠ some k) → ((T k ∧ (Value.slice (some ⟨g, 0, none⟩) (f.length + 1) c).ownBlock ≠ some k) ∧ ¬ v.ownBlock = some k) := by
      rintro k hk ⟨h1, h2⟩
      refine ⟨⟨h1, fun h => ?_⟩, h2⟩
      simp [Value.ownBlock] at h
      subst h
      rcases hg with h | h
      · exact h2 h
      · omega
    exact RowT.snoc (hs.fr hf hk) (ht.fr hf hk) f xs (RowT.fr hf hk f xs hr.cells)
theorem TmRowT.slc {w : World} {T : Nat → Prop} {o : Option Addr} {len cap : Nat} {f : To} {xs : List Value} (h : TmRowT w T (.slice o len cap) f xs) (hl : len = f.length) (hm : len ≤ maxLen) : TSlc T w o len f := by
  refine ⟨hl, hm, fun h0 => ?_⟩
  rcases h.own.2 with ⟨_, h2⟩ | ⟨g, cap', cur, he, _⟩
  · omega
  · injection he with h1 h2 h3
    subst h1
    refine ⟨g, 0, rfl, RowT.at (h.low g rfl) f xs 0 (RowT.fr (Fr.refl (fun _ => False) w) (fun k _ hk => ⟨hk.1, fun h => h⟩) f xs h.cells) ?_⟩
    intro j u hj
    have := h.own.cells (g := g) rfl j u hj
    simpa [Addr.add_lit] using this
end Sc
end Go.Proofs.YtnfodiedalhlhaaDoor
end
section
/-
  The document's Resolve: indexes of variables. Conditions: the term and the names lie in memory as told; there are few; a variable has no parts.
-/
namespace Go.Proofs.YtnfodiedalhlhaaDoor
open Go.RowKit Go.Shelf
namespace Sc

abbrev rH (e : List ByteArray) (h : Nd) (ps : To) : Nd := (wk1 (fun (s : Unit) _ _ => s) rsO () e h ps).2.1
abbrev rP (e : List ByteArray) (h : Nd) (ps : To) : To := (wk1 (fun (s : Unit) _ _ => s) rsO () e h ps).2.2
theorem rP_len (e : List ByteArray) (h : Nd) (ps : To) : (rP e h ps).length = ps.length := by
  unfold rP wk1; split
  · rfl
  · exact wk_length _ _ _ _ _ _ _ _
theorem rs_cons (bk : Int) (nm : ByteArray) (i : Nat) (e : List ByteArray) (h : Nd) (ps r : To) : resR bk nm i e (.cons h ps r) = .cons (rH (envOf bk nm i e) h ps) (rP (envOf bk nm i e) h ps) (resR bk nm (i + 1) e r) := by
  unfold resR; rw [wk_cons]
theorem rP_row (e : List ByteArray) (h : Nd) (ps : To) (hv : varOk h ps) : rP e h ps = resR h.k h.nm 0 e ps := by
  unfold rP wk1
  by_cases hk : h.k = 1
  · rw [hv hk]; simp only [if_pos hk]; rfl
  · simp only [if_neg hk]
/-- the head: a number of its own -/
def rN (e : List ByteArray) (h : Nd) : Int := if h.k = 1 ∧ 0 ≤ ix e h.nm then ix e h.nm else h.n
theorem rH_n (e : List ByteArray) (h : Nd) (ps : To) : rH e h ps = { h with n := rN e h } := by
  unfold rH wk1 rN
  by_cases hk : h.k = 1
  · simp only [if_pos hk]
    unfold rsO
    by_cases hx : 0 ≤ ix e h.nm
    · rw [if_pos hx, if_pos ⟨hk, hx⟩]
    · rw [if_neg hx, if_neg (fun h => hx h.2)]
  · simp only [if_neg hk]
    rw [if_neg (fun h => hk h.1)]
theorem nm_low {T : Nat → Prop} {w : World} {o : Option Addr} {n : Nat} {e : List ByteArray} (h : NmIn T w o n e) : NmIn (fun k => k < w.heap.size) w o n e := h.fr (Fr.refl (fun _ => False) w) (fun _ hk _ => ⟨hk, fun h => h⟩)
def RsQ (R : Nat → Prop) (w : World) (e : List ByteArray) (h : Nd) (ps : To) (o1 : Option Addr) (l1 c1 l2 : Nat) (x : Ending) (w' : World) : Prop :=
  ∃ (o2 : Option Addr) (c2 : Nat), x = .returned (tmv (rH e h ps) o1 l1 c1 o2 l2 c2) ∧ TSlc (fun k => R k ∨ w.heap.size ≤ k) w' o2 l2 (rP e h ps) ∧ Quiet0 w w'
def RResT (h : Nd) (ps : To) : Prop := ∀ (w : World) (R T : Nat → Prop) (o1 : Option Addr) (l1 c1 : Nat) (o2 : Option Addr) (l2 c2 : Nat) (no : Option Addr) (nn nc : Nat) (e : List ByteArray), SlcIn R w o1 l1 h.tp → TSlc R w o2 l2 ps → NmIn T w no nn e → nn + ps.size ≤ 200000 → varOk h ps → allV ps → (∀ k, R k → k < w.heap.size) → (∀ k, T k → k < w.heap.size) →
  Calls Tryd.prog 23 #[tmv h o1 l1 c1 o2 l2 c2, .slice no nn nc] w (RsQ R w e h ps o1 l1 c1 l2)
/-- the loop over parts -/
def RsI (R : Nat → Prop) (B : Nat) (W0 : World) (e : List ByteArray) (h : Nd) (ps : To) (o1 : Option Addr) (l1 c1 l2 : Nat) (nn' : Int) (FP : To) (t : Value) (wr : World) : Prop :=
  ∃ (i : Nat) (f : To) (xs : List Value) (vo : Option Addr) (vc : Nat), t = .int .i64 i ∧ i ≤ l2 ∧ f.length = i ∧ f.app (resR h.k h.nm i e (ps.drop i)) = FP ∧ TmRowT wr (fun k => R k ∨ B + 2 ≤ k) (.slice vo i vc) f xs ∧ (∀ k, (Value.slice vo i vc).ownBlock = some k → B + 2 ≤ k) ∧
    wr.heap[B]? = some (.cells (cells9 { h with n := nn' } o1 l1 c1 vo i vc) 30 (0, 0)) ∧ Fr (fun k => k = B) W0 wr
def RsB (R : Nat → Prop) (bd : Nat) (w : World) (e : List ByteArray) (h : Nd) (ps : To) (o1 : Option Addr) (l1 c1 l2 : Nat) (x : Ending) (w' : World) : Prop :=
  ∃ (o2 : Option Addr) (c2 : Nat), x = .returned (tmv (rH e h ps) o1 l1 c1 o2 l2 c2) ∧ TSlc (fun k => R k ∨ bd ≤ k) w' o2 l2 (rP e h ps) ∧ Quiet0 w w'
theorem rsI_next {R : Nat → Prop} {B : Nat} {W0 wr w2 w4 : World} {e : List ByteArray} {h : Nd} {ps : To} {o1 : Option Addr} {l1 c1 l2 : Nat} {nn' : Int} {FP : To} {i : Nat} {f : To} {xs : List Value} {vo : Option Addr} {vc g4 c4 : Nat} {gh : Nd} {gp : To} {p1 : Option Addr} {m1 d1 : Nat} {r2 : Option Addr} {m2 e2 : Nat}
    (hi : i < l2) (hfl : f.length = i) (hap : (f.app (.cons gh gp .nil)).app (resR h.k h.nm (i + 1) e (ps.drop (i + 1))) = FP) (hrow : TmRowT wr (fun k => R k ∨ B + 2 ≤ k) (.slice vo i vc) f xs) (hlow : ∀ k, (Value.slice vo i vc).ownBlock = some k → B + 2 ≤ k)
    (hb : wr.heap[B]? = some (.cells (cells9 { h with n := nn' } o1 l1 c1 vo i vc) 30 (0, 0))) (hf : Fr (fun k => k = B) W0 wr) (hq : Quiet0 wr w2) (hsl : SlcIn R wr p1 m1 gh.tp) (ht : TSlc (fun k => R k ∨ wr.heap.size ≤ k) w2 r2 m2 gp) (hRl : ∀ k, R k → k < B) (hB : W0.heap.size = B + 2)
    (ho : w4.ownsRow 0 30 9 (.slice (some ⟨g4, 0, none⟩) (i + 1) c4) (i + 1) (xs ++ (cells9 gh p1 m1 d1 r2 m2 e2).toList)) (hf4 : Fr (fun k => (Value.slice vo i vc).ownBlock = some k) w2 w4) (hg4 : (Value.slice vo i vc).ownBlock = some g4 ∨ w2.heap.size ≤ g4) :
    RsI R B W0 e h ps o1 l1 c1 l2 nn' FP (.int .i64 ((i : Int) + 1)) (w4.setCell ⟨B, 6, none⟩ (.slice (some ⟨g4, 0, none⟩) (i + 1) c4)) := by
  subst hfl
  have hwr := hf.size
  have hw2 := hq.size
  have hown : ∀ k, (Value.slice vo f.length vc).ownBlock = some k → k < wr.heap.size := fun k hk => (hrow.own.lt k hk).2
  have hr2 := TmRowT.snoc (c1 := d1) (c2 := e2) (hrow.stay hq) ((hsl.stay hq).mono (fun k _ hk => ⟨.inl hk, fun e => by have := hlow k e; have := hRl k hk; omega⟩)) (ht.mono (fun k _ hk => by
    rcases hk with h | h
    · exact ⟨.inl h, fun e => by have := hlow k e; have := hRl k h; omega⟩
    · exact ⟨.inr (by omega), fun e => by have := hown k e; omega⟩)) ho hf4 hg4 (fun k hk => .inr (by omega))
  have hfs := Fr.setCell (fun k => k = B) w4 ⟨B, 6, none⟩ (.slice (some ⟨g4, 0, none⟩) (f.length + 1) c4) rfl
  have hb4 := blk_fr hf4 (fun e => by have := hlow B e; omega) (blk_after hq hb)
  refine ⟨f.length + 1, _, _, some ⟨g4, 0, none⟩, c4, by go_num, by omega, by rw [To.app_length]; rfl, hap, hr2.fr hfs (fun k hk e => by
    rcases hk with h | h
    · have := hRl k h; omega
    · omega), ?_, set_block (i := 6) (u := .slice (some ⟨g4, 0, none⟩) (f.length + 1) c4) hb4, ?_⟩
  · intro k hk
    simp [Value.ownBlock] at hk
    subst hk
    rcases hg4 with h | h
    · exact hlow _ h
    · omega
  · exact ((hf.trans hq.fr).trans' hf4 (fun k hk e => by have := hlow k e; omega)).trans hfs
set_option maxRecDepth 100000 in
set_option maxHeartbeats 8000000 in
theorem refRes_any (h : Nd) (ps : To) : RResT h ps := by
  refine To.ind' (T := RResT) ?_ h ps
  intro h ps ih w R T o1 l1 c1 o2 l2 c2 no nn nc e hs1 hs hN hsz hv hav hRl hTl
  have HS := Lib.hid hs
  have HS1 := Lib.hid hs1
  have IH := Lib.hid ih
  have HN := Lib.hid hN
  have HNL := Lib.hid hN.1
  have HAV := Lib.hid hav
  have HRL := Lib.hid hRl
  have HTL := Lib.hid hTl
  have hl := hs.1
  have hll := To.length_le ps
  rw [← hl] at hll
  have HL := Lib.hid hl
  obtain ⟨W0, hW0⟩ : ∃ W0, W0 = (w.alloc (.cells (cells9 h o1 l1 c1 o2 l2 c2) 30)).alloc (.cells zero9 30) := ⟨_, rfl⟩
  have HQ0 : Hid (Quiet0 w W0) := by rw [hW0]; exact (Quiet0.alloc _ _).trans (Quiet0.alloc _ _)
  have HB0 : Hid (W0.heap[w.heap.size]? = some (.cells (cells9 h o1 l1 c1 o2 l2 c2) 30 (0, 0))) := by
    show _ = _; rw [hW0, Below.heap_alloc _ _ _ (by simp)]; exact heap_alloc_new w _
  have HB1 : Hid (W0.heap[w.heap.size + 1]? = some (.cells zero9 30 (0, 0))) := by
    show _ = _; rw [hW0]
    have := heap_alloc_new (w.alloc (.cells (cells9 h o1 l1 c1 o2 l2 c2) 30)) (.cells zero9 30)
    simpa using this
  have HZ : Hid (W0.heap.size = w.heap.size + 2) := by show _ = _; rw [hW0]; simp
  have HI := Lib.hid (refIndex_any T e h.nm no nn nc W0 (hN.stay HQ0.out) (by omega))
  obtain ⟨FP, hFP⟩ : ∃ FP, rP e h ps = FP := ⟨_, rfl⟩
  have HFP : Hid (resR h.k h.nm 0 e ps = FP) := by show _ = _; rw [← hFP, rP_row e h ps hv]
  have HRP := Lib.hid hFP
  have HRH := Lib.hid (rH_n e h ps)
  have HRN : Hid (rN e h = if h.k = 1 ∧ 0 ≤ ix e h.nm then ix e h.nm else h.n) := rfl
  generalize rN e h = nn' at *
  clear hs hs1 ih hl hN hav hFP hRl hTl hv
  unfold tmv
  go_enter Tryd.func23, Tryd.ntmps23
  go_upto_region 1 with fail
  rw [← hW0]
  clear hW0
  generalize hB : w.heap.size = B at *
  have HBE := Lib.hid hB
  clear hB
  obtain ⟨⟨x0, x1, x2, x3, x4, x5, x6, x7, x8⟩, y0, y1, y2, y3, y4, y5, y6, y7, y8⟩ := block9 HB0.out
  go_wp2_with fail
  refine HI.out.mono ?_; rintro x w2 ⟨rfl, rfl⟩
  generalize ix e h.nm = r at *
  go_upto_region 2 with fail
  go_cut [18] (fun v wx => v = .bool (decide (h.k = 1 ∧ 0 ≤ r)) ∧ W0 = wx)
  case first =>
    by_cases hk : h.k = 1
    · have hk' : (h.k == 1) = true := by simp [hk]
      by_cases hx : 0 ≤ r
      · have hx' : r ≥ 0 := hx
        have hd : decide (h.k = 1 ∧ 0 ≤ r) = true := by simp [hk, hx]
        have HD := Lib.hid hd
        clear hd hk
        go_wp2_with fail
        go_meet
        exact ⟨by rw [HD.out], rfl⟩
      · have hx' : ¬ r ≥ 0 := hx
        have hd : decide (h.k = 1 ∧ 0 ≤ r) = false := by simp [hk, hx]
        have HD := Lib.hid hd
        clear hd hk
        go_wp2_with fail
        go_meet
        exact ⟨by rw [HD.out], rfl⟩
    · have hk' : (h.k == 1) = false := by simp [hk]
      have hd : decide (h.k = 1 ∧ 0 ≤ r) = false := by simp [hk]
      have HD := Lib.hid hd
      clear hd hk
      go_wp2_with fail
      go_meet
      exact ⟨by rw [HD.out], rfl⟩
  case rest =>
    obtain ⟨rfl, rfl⟩ := hcut
    go_upto_if 18 with fail
    go_cut [5] (fun _ wx => wx.heap[B]? = some (.cells (cells9 { h with n := nn' } o1 l1 c1 o2 l2 c2) 30 (0, 0)) ∧ Fr (fun k => k = B) W0 wx)
    case first =>
      cases hd : decide (h.k = 1 ∧ 0 ≤ r)
      · have hnn : nn' = h.n := by have := HRN.out; rw [if_neg (by simpa using hd)] at this; exact this
        have HNN := Lib.hid hnn
        clear hnn hd
        go_wp2_with fail
        go_meet
        rw [HNN.out]
        exact ⟨HB0.out, Fr.refl _ _⟩
      · have hnn : nn' = r := by have := HRN.out; rw [if_pos (by simpa using hd)] at this; exact this
        have HNN := Lib.hid hnn
        clear hnn hd
        go_wp2_with fail
        go_meet
        rw [HNN.out]
        exact ⟨set_block (i := 2) (u := .int .i64 r) HB0.out, Fr.setCell _ _ _ _ rfl⟩
    case rest =>
      rename World => wx
      obtain ⟨hbx, hfx⟩ := hcut
      clear x0 x1 x2 x3 x4 x5 x6 x7 x8 y0 y1 y2 y3 y4 y5 y6 y7 y8
      have HBX := Lib.hid hbx
      have HFX := Lib.hid hfx
      obtain ⟨⟨x0, x1, x2, x3, x4, x5, x6, x7, x8⟩, y0, y1, y2, y3, y4, y5, y6, y7, y8⟩ := block9 hbx
      clear hbx hfx
      go_upto_region 6 with fail
      have hfs := Fr.setCell (fun k => k = B) wx ⟨B, 6, none⟩ (.slice none 0 0) rfl
      have HBY : Hid ((wx.setCell ⟨B, 6, none⟩ (.slice none 0 0)).heap[B]? = some (.cells (cells9 { h with n := nn' } o1 l1 c1 none 0 0) 30 (0, 0))) := set_block (i := 6) (u := .slice none 0 0) HBX.out
      have HFY := Lib.hid (HFX.out.trans hfs)
      clear hfs x0 x1 x2 x3 x4 x5 x6 x7 x8 y0 y1 y2 y3 y4 y5 y6 y7 y8
      generalize wx.setCell ⟨B, 6, none⟩ (.slice none 0 0) = wy at *
      go_wp2_with fail
      go_loopw [7] (fun t wr => RsI R B W0 e h ps o1 l1 c1 l2 nn' FP t wr) (fun t _ => l2 - (intOf t).toNat)
      case atStart => exact ⟨0, .nil, [], none, 0, rfl, Nat.zero_le _, rfl, by rw [To.drop_zero]; exact HFP.out, TmRowT.nil _ _, by simp [Value.ownBlock], HBY.out, HFY.out⟩
      case round =>
        obtain ⟨i, f, xs, vo, vc, rfl, hi, hfl, hap, hrow, hlow, hb, hf⟩ := hrel
        have HFL := Lib.hid hfl
        have HAP := Lib.hid hap
        have HROW := Lib.hid hrow
        have HLOW := Lib.hid hlow
        have HBB := Lib.hid hb
        have HF := Lib.hid hf
        clear hfl hap hrow hlow hb hf
        by_cases hlt : i < l2
        · have hlt' : (i : Int) < l2 := by omega
          obtain ⟨b9, off, hd, qs, p1, m1, d1, p2, m2, d2, rfl, hd1, hg, hRb, hc9, hsl, ht1⟩ := HS.out.nth hlt
          have hsq := To.size_get ps i hd qs hg
          have hvq := allV_get ps i hd qs HAV.out hg
          have hbl := HRL.out b9 hRb
          have hfw : Fr (fun k => k = B) w wr := HQ0.out.fr.trans HF.out
          have hnl : ∀ k, k < w.heap.size → ¬ k = B := fun k hk h => by have := HBE.out; omega
          have hc9w := hc9.fr hfw (hnl _ (by have := HBE.out; omega))
          have hslw := hsl.fr hfw (T := R) (fun k hk hr => ⟨hr, hnl k hk⟩)
          have ht1w := ht1.fr hfw (T := R) (fun k hk hr => ⟨hr, hnl k hk⟩)
          have hNw := HN.out.fr (T' := T) hfw (fun k hk ht => ⟨ht, hnl k hk⟩)
          have hwr := hfw.size
          have hBl := lt_of_block HBB.out
          have hz1 := lt_of_block HB1.out
          have hzw := HF.out.size
          have henv : (envOf h.k h.nm i e).length ≤ nn + 1 := by have := HNL.out; unfold envOf; split <;> simp <;> omega
          have HAR : Hid (∀ W, Quiet0 wr W → Calls Tryd.prog 41 #[tmv { h with n := nn' } o1 l1 c1 vo i vc, .int .i64 (i : Nat), .slice no nn nc] W (NmPost T W (envOf h.k h.nm i e))) := fun W hq => around_any { h with n := nn' } o1 l1 c1 vo i vc i T e no nn nc W (hNw.stay hq) (by omega)
          have HFR : Hid (∀ (W : World) (no : Option Addr) (nc : Nat), NmIn (fun k => k < W.heap.size) W no (envOf h.k h.nm i e).length (envOf h.k h.nm i e) → Quiet0 wr W → Calls Tryd.prog 23 #[tmv hd p1 m1 d1 p2 m2 d2, .slice no (envOf h.k h.nm i e).length nc] W (RsB R wr.heap.size W (envOf h.k h.nm i e) hd qs p1 m1 d1 m2)) := fun W no nc hN hq => (IH.out i hd qs hg W R _ p1 m1 d1 p2 m2 d2 no _ nc _ (hslw.stay hq) (ht1w.stay hq) hN (by omega) hvq.1 hvq.2 (fun k hk => by have := HRL.out k hk; have := hq.size; omega) (fun k hk => hk)).mono (by rintro x w' ⟨r2, e2, h1, h2, h3⟩; exact ⟨r2, e2, h1, h2.mono (fun k _ hk => hk.imp id (fun h => Nat.le_trans hq.size h)), h3⟩)
          have HD : Hid ((f.app (.cons (rH (envOf h.k h.nm i e) hd qs) (rP (envOf h.k h.nm i e) hd qs) .nil)).app (resR h.k h.nm (i + 1) e (ps.drop (i + 1))) = FP) := by
            have := HAP.out; rw [hd1, rs_cons] at this; show _ = _; rw [← this]; exact (to_app_assoc' f _ _ _).symm
          have HSL : Hid (SlcIn R wr p1 m1 (rH (envOf h.k h.nm i e) hd qs).tp) := by show SlcIn _ _ _ _ _; rw [wk1_tp _ _ rsO_tp]; exact hslw
          have HC9 := Lib.hid hc9w
          obtain ⟨u0, u1, u2, u3, u4, u5, u6, u7, u8⟩ := hc9w
          obtain ⟨⟨x0, x1, x2, x3, x4, x5, x6, x7, x8⟩, y0, y1, y2, y3, y4, y5, y6, y7, y8⟩ := block9 HBB.out
          unfold tmv at HAR HFR
          generalize envOf h.k h.nm i e = E at *
          generalize hgh : rH E hd qs = gh at *
          generalize hgp : rP E hd qs = gp at *
          have HGH := Lib.hid hgh
          have HGP := Lib.hid hgp
          have HCB : Hid (∀ W, Quiet0 wr W → (W.cell? ⟨B, 0, none⟩ = some (.int .i64 { h with n := nn' }.k) ∧ W.cell? ⟨B, 1, none⟩ = some (.string { h with n := nn' }.nm) ∧ W.cell? ⟨B, 2, none⟩ = some (.int .i64 { h with n := nn' }.n) ∧ W.cell? ⟨B, 3, none⟩ = some (.int .i64 { h with n := nn' }.tk) ∧ W.cell? ⟨B, 4, none⟩ = some (.int .i64 { h with n := nn' }.tn) ∧ W.cell? ⟨B, 5, none⟩ = some (.slice o1 l1 c1) ∧ W.cell? ⟨B, 6, none⟩ = some (.slice vo i vc) ∧ W.cell? ⟨B, 7, none⟩ = some (.int .i64 { h with n := nn' }.fr) ∧ W.cell? ⟨B, 8, none⟩ = some (.int .i64 { h with n := nn' }.en)) ∧ (W.cell? ⟨b9, off + i * 9, none⟩ = some (.int .i64 hd.k) ∧ W.cell? ⟨b9, off + i * 9 + 1, none⟩ = some (.string hd.nm) ∧ W.cell? ⟨b9, off + i * 9 + 2, none⟩ = some (.int .i64 hd.n) ∧ W.cell? ⟨b9, off + i * 9 + 3, none⟩ = some (.int .i64 hd.tk) ∧ W.cell? ⟨b9, off + i * 9 + 4, none⟩ = some (.int .i64 hd.tn) ∧ W.cell? ⟨b9, off + i * 9 + 5, none⟩ = some (.slice p1 m1 d1) ∧ W.cell? ⟨b9, off + i * 9 + 6, none⟩ = some (.slice p2 m2 d2) ∧ W.cell? ⟨b9, off + i * 9 + 7, none⟩ = some (.int .i64 hd.fr) ∧ W.cell? ⟨b9, off + i * 9 + 8, none⟩ = some (.int .i64 hd.en))) := fun W hq => ⟨(cells9_block HBB.out).fr hq (fun h => h), HC9.out.fr hq (fun h => h)⟩
          clear hd1 hg hsl hslw ht1 ht1w hsq hRb hvq hc9 henv hNw hfw hnl hgh hgp
          go_upto_region 9 with fail
          have hqc := Quiet0.refl wr
          have HOWN : Hid (wr.ownsRow 0 30 9 (.slice vo i vc) i xs) := by have := HROW.out.own; rw [HFL.out] at this; exact this
          have hlB : ∀ k, (Value.slice vo i vc).ownBlock = some k → k ≠ B := fun k hk => by have := HLOW.out k hk; omega
          have HLB := Lib.hid hlB
          clear hlB
          clear y0 y1 y2 y3 y4 y5 y6 y7 y8
          go_region_law (first
              | (go_simp; go_at_call 41; (with_reducible refine Calls.mono (HAR.out _ ?hq) ?_); (case hq => (repeat (first | with_reducible exact hqc | with_reducible exact Quiet0.refl _ | with_reducible refine Quiet0.trans ?_ (Quiet0.alloc _ _) | with_reducible refine Quiet0.trans ?_ (Quiet0.drew _) | fail))); rintro x1w w1 ⟨no2, nc2, rfl, hn1, hqx⟩; (refine with_q (w0 := wr) ?hq2 hqx ?_); (case hq2 => (repeat (first | with_reducible exact hqc | with_reducible exact Quiet0.refl _ | with_reducible refine Quiet0.trans ?_ (Quiet0.alloc _ _) | with_reducible refine Quiet0.trans ?_ (Quiet0.drew _) | fail))); intro hqc; (try clear x0 x1 x2 x3 x4 x5 x7 x8); obtain ⟨⟨_, _, _, _, _, _, xx6, _, _⟩, uu0, uu1, uu2, uu3, uu4, uu5, uu6, uu7, uu8⟩ := HCB.out _ hqc)
              | (go_simp; go_at_call 23; (with_reducible refine Calls.mono (HFR.out _ _ _ (nm_low (hn1.stay ?hq3)) ?hq) ?_); (case hq3 => (repeat (first | with_reducible exact Quiet0.refl _ | with_reducible refine Quiet0.trans ?_ (Quiet0.alloc _ _) | with_reducible refine Quiet0.trans ?_ (Quiet0.drew _) | fail))); (case hq => (repeat (first | with_reducible exact hqc | with_reducible exact Quiet0.refl _ | with_reducible refine Quiet0.trans ?_ (Quiet0.alloc _ _) | with_reducible refine Quiet0.trans ?_ (Quiet0.drew _) | fail))); rintro x1w w2 ⟨r2, e2, rfl, ht2, hqx⟩; rw [HGH.out]; rw [HGP.out] at ht2; unfold tmv; have HT2 := Lib.hid ht2; clear ht2; (refine with_q (w0 := wr) ?hq2 hqx ?_); (case hq2 => (repeat (first | with_reducible exact hqc | with_reducible exact Quiet0.refl _ | with_reducible refine Quiet0.trans ?_ (Quiet0.alloc _ _) | with_reducible refine Quiet0.trans ?_ (Quiet0.drew _) | fail))); intro hqc; (try clear u0 u1 u2 u3 u4 u5 u6 u7 u8); (try clear uu0 uu1 uu2 uu3 uu4 uu5 uu6 uu7 uu8); have xz6 := (HCB.out _ hqc).1.2.2.2.2.2.2.1; have xa6 := (HCB.out _ (hqc.trans (Quiet0.alloc w2 (.cells (cells9 gh p1 m1 d1 r2 m2 e2) 30)))).1.2.2.2.2.2.2.1)
              | (refine St.step_append_one w2 rfl (.tmp 31) (.tmp 41) 26 rfl 30 _ 9 112 elemTm (.slice vo i vc) i xs rfl ?hown (cells9 gh p1 m1 d1 r2 m2 e2) rfl rfl ?c1 ?c2 ?c3 ?_; (case hown => exact ownsRow_fr HOWN.out hqc (fun _ _ h => h)); (case c1 => simp [Value.oneCell']); (case c2 => (unfold maxLen; omega)); (case c3 => omega); intro g4 c4 w4 ho4 hf4 hg4; have hqf := hqc.fr.trans hf4; have HO4 := Lib.hid ho4; have HF4 := Lib.hid hf4; have HG4 : Hid ((Value.slice vo i vc).ownBlock = some g4 ∨ w2.heap.size ≤ g4) := hg4; have HQ4 := Lib.hid hqc; clear ho4 hf4 hg4; obtain ⟨⟨_, _, _, _, _, _, xf6, _, _⟩, _, _, _, _, _, _, yf6, _, _⟩ := block9 (blk_fr hqf (fun e => HLB.out _ e rfl) HBB.out); clear hqf)
              | (refine St.step_append_one w2.drew rfl (.tmp 31) (.tmp 41) 26 rfl 30 _ 9 112 elemTm (.slice vo i vc) i xs rfl ?hown (cells9 gh p1 m1 d1 r2 m2 e2) rfl rfl ?c1 ?c2 ?c3 ?_; (case hown => exact ownsRow_fr HOWN.out (hqc.trans (Quiet0.drew w2)) (fun _ _ h => h)); (case c1 => simp [Value.oneCell']); (case c2 => (unfold maxLen; omega)); (case c3 => omega); intro g4 c4 w4 ho4 hf4' hg4; have hf4 := (Fr.drew (fun k => (Value.slice vo i vc).ownBlock = some k) w2).trans hf4'; clear hf4'; have hqf := hqc.fr.trans hf4; have HO4 := Lib.hid ho4; have HF4 := Lib.hid hf4; have HG4 : Hid ((Value.slice vo i vc).ownBlock = some g4 ∨ w2.heap.size ≤ g4) := hg4; have HQ4 := Lib.hid hqc; clear ho4 hf4 hg4; obtain ⟨⟨_, _, _, _, _, _, xf6, _, _⟩, _, _, _, _, _, _, yf6, _, _⟩ := block9 (blk_fr hqf (fun e => HLB.out _ e rfl) HBB.out); clear hqf)
              | fail)
          all_goals
            go_wp2_with fail
            go_roundw
            case rel =>
              exact rsI_next hlt HFL.out HD.out HROW.out HLOW.out HBB.out HF.out HQ4.out HSL.out HT2.out HRL.out (by have := HZ.out; omega) HO4.out HF4.out HG4.out
            case measure => simp [intOf] <;> omega
        · have hlt' : ¬ (i : Int) < l2 := by omega
          have hil : i = l2 := by omega
          subst hil
          have hb1 := blk_fr HF.out (by omega) HB1.out
          have HK1 := Lib.hid hb1
          obtain ⟨⟨x0, x1, x2, x3, x4, x5, x6, x7, x8⟩, _⟩ := block9 HBB.out
          obtain ⟨⟨z0, z1, z2, z3, z4, z5, z6, z7, z8⟩, t0, t1, t2, t3, t4, t5, t6, t7, t8⟩ := block9 hb1
          clear hb1
          go_wp2_with fail
          have hff := put9_fr wr (B + 1) (.int .i64 h.k) (.string h.nm) (.int .i64 nn') (.int .i64 h.tk) (.int .i64 h.tn) (.slice o1 l1 c1) (.slice vo i vc) (.int .i64 h.fr) (.int .i64 h.en)
          have hbf := put9_block (a0 := .int .i64 h.k) (a1 := .string h.nm) (a2 := .int .i64 nn') (a3 := .int .i64 h.tk) (a4 := .int .i64 h.tn) (a5 := .slice o1 l1 c1) (a6 := .slice vo i vc) (a7 := .int .i64 h.fr) (a8 := .int .i64 h.en) HK1.out
          change bodyPost _ _ _ _ _ (put9 wr (B + 1) (.int .i64 h.k) (.string h.nm) (.int .i64 nn') (.int .i64 h.tk) (.int .i64 h.tn) (.slice o1 l1 c1) (.slice vo i vc) (.int .i64 h.fr) (.int .i64 h.en))
          clear x0 x1 x2 x3 x4 x5 x6 x7 x8 z0 z1 z2 z3 z4 z5 z6 z7 z8 t0 t1 t2 t3 t4 t5 t6 t7 t8
          generalize put9 wr (B + 1) (.int .i64 h.k) (.string h.nm) (.int .i64 nn') (.int .i64 h.tk) (.int .i64 h.tn) (.slice o1 l1 c1) (.slice vo i vc) (.int .i64 h.fr) (.int .i64 h.en) = wf at *
          obtain ⟨⟨x0, x1, x2, x3, x4, x5, x6, x7, x8⟩, _⟩ := block9 hbf
          have HFIN : Hid (RsQ R w e h ps o1 l1 c1 i (.returned (.agg #[.int .i64 h.k, .string h.nm, .int .i64 nn', .int .i64 h.tk, .int .i64 h.tn, .slice o1 l1 c1, .slice vo i vc, .int .i64 h.fr, .int .i64 h.en])) wf) := by
            have hB := HBE.out
            have hz := HZ.out
            have hfe : f = FP := by
              have := HAP.out
              rw [To.drop_end ps i (by have := HL.out; omega)] at this
              rw [← this]; show f = f.app .nil; rw [To.app_nil]
            refine ⟨vo, vc, by rw [HRH.out]; rfl, ?_, (HQ0.out.trans' HF.out (fun k hk h => by omega)).trans' hff (fun k hk h => by omega)⟩
            rw [HRP.out, ← hfe]
            exact (HROW.out.slc HFL.out.symm (by unfold maxLen; omega)).fr hff (fun k _ hk => by
              rcases hk with h | h
              · exact ⟨.inl h, fun e => by have := HRL.out k h; omega⟩
              · exact ⟨.inr (by omega), fun e => by omega⟩)
          clear hff hbf
          refine bodyPost_ret (by simp [results, Tryd.results23, go_sem, x0, x1, x2, x3, x4, x5, x6, x7, x8]; rfl) rfl ?_
          exact HFIN.out
end Sc
end Go.Proofs.YtnfodiedalhlhaaDoor
end
section
/-
  term.Apply. Conditions: the terms lie in memory as told; there are few parts of them.
-/
namespace Go.Proofs.YtnfodiedalhlhaaDoor
open Go.RowKit Go.Shelf

abbrev appNd : Nd := ⟨5, ⟨#[]⟩, 0, 0, 0, .nil, 0, 0⟩
abbrev zeroNd : Nd := ⟨0, ⟨#[]⟩, 0, 0, 0, .nil, 0, 0⟩
/-- a term, applied to others one by one -/
def foldA : Nd → To → To → Nd × To
  | h, ps, .nil => (h, ps)
  | h, ps, .cons h2 ps2 r => foldA appNd (.cons h ps (.cons h2 ps2 .nil)) r
def appAll : To → Nd × To
  | .nil => (zeroNd, .nil)
  | .cons h ps r => foldA h ps r
abbrev cells18 (g : Nd) (a1 : Option Addr) (n1 k1 : Nat) (a2 : Option Addr) (n2 k2 : Nat) (hd : Nd) (u1 : Option Addr) (v1 t1 : Nat) (u2 : Option Addr) (v2 t2 : Nat) : Array Value :=
  #[.int .i64 g.k, .string g.nm, .int .i64 g.n, .int .i64 g.tk, .int .i64 g.tn, .slice a1 n1 k1, .slice a2 n2 k2, .int .i64 g.fr, .int .i64 g.en, .int .i64 hd.k, .string hd.nm, .int .i64 hd.n, .int .i64 hd.tk, .int .i64 hd.tn, .slice u1 v1 t1, .slice u2 v2 t2, .int .i64 hd.fr, .int .i64 hd.en]
set_option maxHeartbeats 2000000 in
theorem slc9two {R : Nat → Prop} {W : World} {b : Nat} {g hd : Nd} {a1 : Option Addr} {n1 k1 : Nat} {a2 : Option Addr} {n2 k2 : Nat} {u1 : Option Addr} {v1 t1 : Nat} {u2 : Option Addr} {v2 t2 : Nat} {gs qs : To}
    (hb : W.heap[b]? = some (.cells (cells18 g a1 n1 k1 a2 n2 k2 hd u1 v1 t1 u2 v2 t2) 30 (0, 0))) (hR : R b)
    (h1 : SlcIn R W a1 n1 g.tp) (h2 : TSlc R W a2 n2 gs) (h3 : SlcIn R W u1 v1 hd.tp) (h4 : TSlc R W u2 v2 qs) : TSlc R W (some ⟨b, 0, none⟩) 2 (.cons g gs (.cons hd qs .nil)) := by
  refine ⟨rfl, by decide, fun _ => ⟨b, 0, rfl, hR, ⟨a1, n1, k1, a2, n2, k2, ⟨?_, ?_, ?_, ?_, ?_, ?_, ?_, ?_, ?_⟩, h1, h2.1, h2.2.1, h2.2.2⟩,
    hR, ⟨u1, v1, t1, u2, v2, t2, ⟨?_, ?_, ?_, ?_, ?_, ?_, ?_, ?_, ?_⟩, h3, h4.1, h4.2.1, h4.2.2⟩, trivial⟩⟩
  all_goals (rw [cell_of_row _ _ _ _ _ (0, 0) hb]; rfl)
/-- what Apply gives back -/
def ApPost (w : World) (fin : Nd × To) (e : Ending) (w' : World) : Prop := ∃ p1 m1 d1 p2 m2 d2, e = .returned (tmv fin.1 p1 m1 d1 p2 m2 d2) ∧ SlcIn (fun b => w.heap.size ≤ b) w' p1 m1 fin.1.tp ∧ TSlc (fun b => w.heap.size ≤ b) w' p2 m2 fin.2 ∧ Quiet0 w w'
def ApplyPost (w : World) (f : To) (e : Ending) (w' : World) : Prop := ApPost w (appAll f) e w'
theorem foldA_cons (h h2 : Nd) (ps ps2 r : To) : foldA h ps (.cons h2 ps2 r) = foldA appNd (.cons h ps (.cons h2 ps2 .nil)) r := rfl
/-- Apply's loop is at its head: what was put together lies in the box -/
structure ApRel (B1 B3 : Nat) (W2 wr : World) (g : Nd) (gs : To) : Prop where
  box : ∃ p1 m1 d1 p2 m2 d2, wr.heap[B3]? = some (.cells (cells9 g p1 m1 d1 p2 m2 d2) 30 (0, 0)) ∧ SlcIn (fun k => B1 < k ∧ k ≠ B3) wr p1 m1 g.tp ∧ TSlc (fun k => B1 < k ∧ k ≠ B3) wr p2 m2 gs
  fr : Fr (fun k => k = B3) W2 wr
theorem put9_size (w : World) (B : Nat) (a0 a1 a2 a3 a4 a5 a6 a7 a8 : Value) : (put9 w B a0 a1 a2 a3 a4 a5 a6 a7 a8).heap.size = w.heap.size := by
  unfold put9; simp [World.setCell]
theorem ap_next {B1 B3 : Nat} {W2 wr W5 wx : World} {g hd : Nd} {gs qs : To} {p1 : Option Addr} {m1 d1 : Nat} {p2 : Option Addr} {m2 d2 : Nat} {q5 : Option Addr} {v1 e5 : Nat} {q6 : Option Addr} {v2 e6 : Nat}
    (HFR : Fr (fun k => k = B3) W2 wr) (HQ5 : Quiet0 wr W5) (hqc : Quiet0 W5 wx) (hB3 : W5.heap[B3]? = some (.cells (cells9 g p1 m1 d1 p2 m2 d2) 30 (0, 0))) (h1 : B1 < B3)
    (hp1 : SlcIn (fun k => B1 < k ∧ k ≠ B3) W5 p1 m1 g.tp) (hp2 : TSlc (fun k => B1 < k ∧ k ≠ B3) W5 p2 m2 gs) (hk5 : SlcIn (fun b => W5.heap.size ≤ b) wx q5 v1 hd.tp) (hk6 : TSlc (fun b => W5.heap.size ≤ b) wx q6 v2 qs) :
    ApRel B1 B3 W2 ((put9 wx B3 (.int .i64 5) (.string ⟨#[]⟩) (.int .i64 0) (.int .i64 0) (.int .i64 0) (.slice none 0 0) (.slice (some ⟨wx.heap.size, 0, none⟩) 2 2) (.int .i64 0) (.int .i64 0)).alloc (.cells (cells18 g p1 m1 d1 p2 m2 d2 hd q5 v1 e5 q6 v2 e6) 30)) appNd (.cons g gs (.cons hd qs .nil)) := by
  have hb3x := blk_after hqc hB3
  have hput := put9_fr wx B3 (.int .i64 5) (.string ⟨#[]⟩) (.int .i64 0) (.int .i64 0) (.int .i64 0) (.slice none 0 0) (.slice (some ⟨wx.heap.size, 0, none⟩) 2 2) (.int .i64 0) (.int .i64 0)
  have hbl := put9_block (a0 := .int .i64 5) (a1 := .string ⟨#[]⟩) (a2 := .int .i64 0) (a3 := .int .i64 0) (a4 := .int .i64 0) (a5 := .slice none 0 0) (a6 := .slice (some ⟨wx.heap.size, 0, none⟩) 2 2) (a7 := .int .i64 0) (a8 := .int .i64 0) hb3x
  have hsz := put9_size wx B3 (.int .i64 5) (.string ⟨#[]⟩) (.int .i64 0) (.int .i64 0) (.int .i64 0) (.slice none 0 0) (.slice (some ⟨wx.heap.size, 0, none⟩) 2 2) (.int .i64 0) (.int .i64 0)
  generalize (put9 wx B3 (.int .i64 5) (.string ⟨#[]⟩) (.int .i64 0) (.int .i64 0) (.int .i64 0) (.slice none 0 0) (.slice (some ⟨wx.heap.size, 0, none⟩) 2 2) (.int .i64 0) (.int .i64 0)) = wp at *
  have hnew := heap_alloc_new wp (.cells (cells18 g p1 m1 d1 p2 m2 d2 hd q5 v1 e5 q6 v2 e6) 30)
  rw [hsz] at hnew
  have hl3 := lt_of_block hb3x
  have hs5 : B3 < W5.heap.size := lt_of_block hB3
  have ha := Quiet0.alloc wp (.cells (cells18 g p1 m1 d1 p2 m2 d2 hd q5 v1 e5 q6 v2 e6) 30)
  refine ⟨⟨none, 0, 0, some ⟨wx.heap.size, 0, none⟩, 2, 2, ?_, SlcIn.nil _ _ _, ?_⟩, ?_⟩
  · rw [Below.heap_alloc _ _ _ (by rw [hsz]; exact hl3)]; exact hbl
  · refine slc9two hnew ⟨by omega, by omega⟩ ?_ ?_ ?_ ?_
    · exact ((hp1.stay hqc).fr hput (fun k _ h => ⟨h, fun e => h.2 e⟩)).stay ha
    · exact ((hp2.stay hqc).fr hput (fun k _ h => ⟨h, fun e => h.2 e⟩)).stay ha
    · exact (hk5.fr (T := fun k => B1 < k ∧ k ≠ B3) hput (fun k _ h => by have h' : W5.heap.size ≤ k := h; exact ⟨⟨by omega, by omega⟩, fun e => by have e' : k = B3 := e; omega⟩)).stay ha
    · exact (hk6.fr (T := fun k => B1 < k ∧ k ≠ B3) hput (fun k _ h => by have h' : W5.heap.size ≤ k := h; exact ⟨⟨by omega, by omega⟩, fun e => by have e' : k = B3 := e; omega⟩)).stay ha
  · exact (((HFR.trans HQ5.fr).trans hqc.fr).trans hput).trans ha.fr
end Go.Proofs.YtnfodiedalhlhaaDoor
end
section
/-
  term.Nth at a number that there is: a range over all terms, left by a return. Conditions: the term lies in memory as told; there are few of them.
-/
namespace Go.Proofs.YtnfodiedalhlhaaDoor
open Go.RowKit Go.Shelf

attribute [local go_sem] Oper.semAt_some
def NtI (k : Nat) (w : World) (i : Nat) (D : Nat → Prop) (W : World) : Prop :=
  (∀ j, D j ↔ (j = w.heap.size + 2 ∨ j = w.heap.size + 3)) ∧ W.heap[w.heap.size + 1]? = some (.cells #[.int .i64 (k : Int)] 3 (0, 0)) ∧ W.heap[w.heap.size + 2]? = some (.cells zero9 30 (0, 0)) ∧ W.heap[w.heap.size + 3]? = some (.cells #[.bool false] 4 (0, 0)) ∧ Quiet0 w W ∧ i ≤ k
theorem NtI.fr {k : Nat} {w : World} {i : Nat} {D S : Nat → Prop} {W W' : World} (h : NtI k w i D W) (hf : Fr S W W') (h1 : ¬ S (w.heap.size + 1)) (h2 : ¬ S (w.heap.size + 2)) (h3 : ¬ S (w.heap.size + 3)) (h4 : ∀ k, k < w.heap.size → ¬ S k) : NtI k w i D W' :=
  ⟨h.1, blk_fr hf h1 h.2.1, blk_fr hf h2 h.2.2.1, blk_fr hf h3 h.2.2.2.1, Fr.trans' h.2.2.2.2.1 hf (fun k hk hs => h4 k hk hs), h.2.2.2.2.2⟩
/-- Nth has found it: its result lies in its two boxes -/
def NtX (x : Nd × To) (w : World) (z : Nat) (W : World) : Prop :=
  ∃ p1 m1 d1 p2 m2 d2, W.heap[w.heap.size + 2]? = some (.cells (cells9 x.1 p1 m1 d1 p2 m2 d2) 30 (0, 0)) ∧ W.heap[w.heap.size + 3]? = some (.cells #[.bool true] 4 (0, 0)) ∧ SlcIn (fun k => z ≤ k) W p1 m1 x.1.tp ∧ TSlc (fun k => z ≤ k) W p2 m2 x.2 ∧ Quiet0 w W
end Go.Proofs.YtnfodiedalhlhaaDoor
end
section
/-
  The laws' awake of chapter 05. Condition: the table of blanks holds what its initialiser lays.
-/
namespace Go.Proofs.YtnfodiedalhlhaaDoor
open Go.RowKit Go.Shelf

abbrev fNd : Nd := ⟨1, ⟨#[102]⟩, 0, 0, 0, .nil, 0, 0⟩
abbrev xNd : Nd := ⟨1, ⟨#[120]⟩, 0, 0, 0, .nil, 0, 0⟩
abbrev fxTo : To := .cons fNd .nil (.cons xNd .nil .nil)
theorem slcIn_nil {R : Nat → Prop} {w : World} {o : Option Addr} {l : Nat} (h : SlcIn R w o l .nil) : l = 0 := h.1
theorem tslc_nil {R : Nat → Prop} {w : World} {o : Option Addr} {l : Nat} (h : TSlc R w o l .nil) : l = 0 := h.1
theorem fx_flat : (To.cons appNd fxTo .nil).flat = [(appNd, fxTo), (fNd, .nil), (xNd, .nil)] := rfl
theorem fx_good : allT GoodH (.cons appNd fxTo .nil) := by
  have h : ∀ k nm, nm.size ≤ 100000 → GoodH ⟨k, nm, 0, 0, 0, .nil, 0, 0⟩ := fun k nm hn => ⟨hn, Nat.zero_le _, (by decide : (Lit.int .i64 0).wf = true), trivial⟩
  exact ⟨h _ _ (by decide), ⟨h _ _ (by decide), trivial, h _ _ (by decide), trivial, trivial⟩, trivial⟩
theorem fx_right : (To.cons appNd fxTo .nil).flat.all sndX = true := by
  rw [fx_flat]; decide +kernel
end Go.Proofs.YtnfodiedalhlhaaDoor
end
section
/-
  ref.Equal of two terms. Condition: both lie in memory as told.
-/
namespace Go.Proofs.YtnfodiedalhlhaaDoor
open Go.RowKit Go.Shelf

set_option maxHeartbeats 1000000 in
theorem refEqualT_any (a : Nd) (p : To) (b : Nd) (q : To) (w : World) (R : Nat → Prop) (o1 : Option Addr) (l1 c1 : Nat) (o2 : Option Addr) (l2 c2 : Nat) (p1 : Option Addr) (m1 d1 : Nat) (p2 : Option Addr) (m2 d2 : Nat)
    (h1 : SlcIn R w o1 l1 a.tp) (h2 : TSlc R w o2 l2 p) (h3 : SlcIn R w p1 m1 b.tp) (h4 : TSlc R w p2 m2 q) :
    Calls Tryd.prog 17 #[tmv a o1 l1 c1 o2 l2 c2, tmv b p1 m1 d1 p2 m2 d2] w fun e w' => e = .returned (.bool (alikeT true a p b q)) ∧ Quiet0 w w' := by
  have HC := Lib.hid (fun (W : World) (hq : Quiet0 w W) => refSameT_any true a p b q W o1 l1 c1 o2 l2 c2 p1 m1 d1 p2 m2 d2 R (h1.stay hq) (h2.stay hq) (h3.stay hq) (h4.stay hq))
  generalize alikeT true a p b q = r at *
  clear h1 h2 h3 h4
  unfold tmv at *
  go_enter Tryd.func17, Tryd.ntmps17
  go_wp2_with fail
  refine (HC.out _ ((Quiet0.alloc _ _).trans (Quiet0.alloc _ _))).mono ?_; rintro e w1 ⟨rfl, hq⟩
  go_wp2_with fail
  go_ret
  exact ⟨rfl, ((Quiet0.alloc _ _).trans (Quiet0.alloc _ _)).trans hq⟩
end Go.Proofs.YtnfodiedalhlhaaDoor
end
section
/-
  The law's bound on terms (room, Great). Conditions: the term lies in memory as told.
-/
namespace Go.Proofs.YtnfodiedalhlhaaDoor
open Go.RowKit

/-- is a head too much -/
def bigH (h : Nd) : Bool := decide (60 < h.nm.size) || greatF h.tp
namespace To
/-- how much is left of m, terms taken from it (the law's room, over parts that lie d deep at most) -/
def room : Nat → Int → To → Int
  | _, m, nil => m
  | d, m, cons h ps r => if m < 0 then m else
      match d with
      | 0 => room 0 (-1) r
      | d + 1 => room (d + 1) (if bigH h then -1 else room d (m - 1) ps) r
theorem room_neg : ∀ (f : To) (d : Nat) (m : Int), m < 0 → room d m f = m
  | nil, _, _, _ => by unfold room; rfl
  | cons h ps r, d, m, e => by unfold room; rw [if_pos e]
theorem room_le : ∀ (f : To) (d : Nat) (m : Int), 0 ≤ m → room d m f ≤ m ∧ -1 ≤ room d m f
  | nil, _, _, _ => by unfold room; omega
  | cons h ps r, d, m, e => by
    unfold room
    rw [if_neg (by omega)]
    cases d with
    | zero => simp only; rw [room_neg r 0 (-1) (by omega)]; omega
    | succ d =>
      simp only
      cases hb : bigH h
      · simp only [Bool.false_eq_true, if_false]
        by_cases hm : 0 ≤ m - 1
        · have h1 := room_le ps d (m - 1) hm
          by_cases h0 : 0 ≤ room d (m - 1) ps
          · have h2 := room_le r (d + 1) _ h0; omega
          · rw [room_neg r _ _ (by omega)]; omega
        · rw [room_neg ps _ _ (by omega), room_neg r _ _ (by omega)]; omega
      · simp only [if_true]
        rw [room_neg r _ _ (by omega)]; omega
theorem room_all : ∀ (f : To) (d : Nat) (m : Int), 0 ≤ room d m f → room d m f = m - f.size ∧ 0 ≤ m ∧ f.depth ≤ d ∧ allT (fun h => bigH h = false) f
  | nil, _, m, h => by unfold room at h ⊢; simp [size, depth, allT]; exact h
  | cons h ps r, d, m, e => by
    unfold room at e ⊢
    by_cases hm : m < 0
    · rw [if_pos hm] at e; omega
    · rw [if_neg hm] at e ⊢
      cases d with
      | zero => simp only at e; rw [room_neg r 0 (-1) (by omega)] at e; omega
      | succ d =>
        simp only at e ⊢
        obtain ⟨h1, h2, h3, h4⟩ := room_all r (d + 1) _ e
        cases hb : bigH h
        · rw [hb] at h1 h2 e
          simp only [Bool.false_eq_true, if_false] at h1 h2 e ⊢
          obtain ⟨g1, g2, g3, g4⟩ := room_all ps d (m - 1) h2
          rw [h1, g1]
          refine ⟨by simp only [size]; omega, by omega, by simp only [depth]; omega, hb, g4, h4⟩
        · rw [hb] at h2; simp at h2
end To
/-- the law's room of one term -/
def roomOne (d : Nat) (m : Int) (h : Nd) (ps : To) : Int := if d = 0 then -1 else if bigH h then -1 else To.room (d - 1) (m - 1) ps
theorem room_cons (d : Nat) (m : Int) (h : Nd) (ps r : To) (hm : 0 ≤ m) : To.room d m (.cons h ps r) = To.room d (roomOne d m h ps) r := by
  conv => lhs; unfold To.room
  rw [if_neg (by omega)]
  unfold roomOne
  cases d with
  | zero => rfl
  | succ d => rfl
theorem roomOne_le (d : Nat) (m : Int) (h : Nd) (ps : To) (hm : 0 ≤ m) : -1 ≤ roomOne d m h ps ∧ roomOne d m h ps ≤ m := by
  unfold roomOne
  split
  · omega
  · split
    · omega
    · by_cases h1 : 0 ≤ m - 1
      · have := To.room_le ps (d - 1) (m - 1) h1; omega
      · rw [To.room_neg _ _ _ (by omega)]; omega
def LRoomT (h : Nd) (ps : To) : Prop := ∀ (w : World) (R : Nat → Prop) (o1 : Option Addr) (l1 c1 : Nat) (o2 : Option Addr) (l2 c2 : Nat) (d : Nat) (m : Int) (di : Int), di = d → SlcIn R w o1 l1 h.tp → TSlc R w o2 l2 ps → h.nm.size ≤ 9223372036854775807 → allT (fun h => h.nm.size ≤ 9223372036854775807) ps → 0 ≤ m → m ≤ 100000 → d ≤ 100000 →
  Calls Tryd.prog 42 #[tmv h o1 l1 c1 o2 l2 c2, .int .i64 m, .int .i64 di] w fun e w' => e = .returned (.int .i64 (roomOne d m h ps)) ∧ Quiet0 w w'
set_option maxHeartbeats 2000000 in
theorem roomT_any (h : Nd) (ps : To) : LRoomT h ps := by
  refine To.ind' (T := LRoomT) ?_ h ps
  intro h ps ih w R o1 l1 c1 o2 l2 c2 d m di ed hs1 hs hnm hnms hm0 hm1 hd1
  subst ed
  have HG := Lib.hid (fun (W : World) (hq : Quiet0 w W) => great_any h.tk h.tn h.tp W o1 l1 c1 (hs1.slc.stay hq))
  have HS := Lib.hid hs
  have IH := Lib.hid ih
  have HL := Lib.hid hs.1
  have HNM := Lib.hid hnms
  have hmx := hs.2.1
  unfold maxLen at hmx
  unfold tyv at HG
  clear hs ih hnms
  by_cases hd0 : d = 0
  · subst hd0
    unfold tmv roomOne
    go_enter Tryd.func42, Tryd.ntmps42
    go_wp2_with fail
    go_ret
    exact ⟨rfl, Quiet0.alloc _ _⟩
  · obtain ⟨D, hD⟩ : ∃ D, D = d - 1 := ⟨_, rfl⟩
    have hd0' : ((d : Int) == 0) = false := by simp; omega
    have hdD : d = D + 1 := by omega
    by_cases h60 : 60 < h.nm.size
    · have h60' : (60 : Int) < (h.nm.size : Int) := by omega
      have HF : Hid (roomOne d m h ps = -1) := by show _ = _; unfold roomOne bigH; rw [if_neg hd0]; simp [h60]
      rw [HF.out]
      clear hd0 hD
      unfold tmv
      go_enter Tryd.func42, Tryd.ntmps42
      go_wp2_with fail
      go_ret
      exact ⟨rfl, Quiet0.alloc _ _⟩
    · have h60' : ¬ (60 : Int) < (h.nm.size : Int) := by omega
      cases hg : greatF h.tp
      · obtain ⟨res, hres⟩ : ∃ res, res = To.room D (m - 1) ps := ⟨_, rfl⟩
        have HRES := Lib.hid hres
        have HF : Hid (roomOne d m h ps = res) := by show _ = _; unfold roomOne bigH; rw [if_neg hd0, hres, hg, ← hD]; simp [h60]
        rw [HF.out]
        rw [hg] at HG
        have HDD := Lib.hid hdD
        have hD1 : D ≤ 100000 := by omega
        have hd1' : 1 ≤ d := by omega
        clear hres hd0 hD hdD hg h60
        obtain ⟨W0, hW0⟩ : ∃ W0, W0 = w.alloc (.cells (cells9 h o1 l1 c1 o2 l2 c2) 30) := ⟨_, rfl⟩
        have HB : Hid (∀ W, Quiet0 W0 W → W.cell? ⟨w.heap.size, 6, none⟩ = some (.slice o2 l2 c2)) := by
          intro W hq; rw [hW0] at hq; exact (box9 w h o1 l1 c1 o2 l2 c2 _ W hq).2.2.2.2.2.2.1
        have HQ0 : Hid (Quiet0 w W0) := by rw [hW0]; exact Quiet0.alloc _ _
        unfold tmv
        go_enter Tryd.func42, Tryd.ntmps42
        go_wp2_with fail
        change Calls _ _ _ (w.alloc (.cells (cells9 h o1 l1 c1 o2 l2 c2) 30)) _
        rw [← hW0]
        refine (HG.out _ HQ0.out).mono ?_; rintro e w1 ⟨rfl, hq1⟩
        have HQ1 := Lib.hid hq1
        clear hW0 hq1
        go_wp2_with fail
        generalize w.heap.size = nb at *
        go_loopw [1, 7] (fun s t wr => ∃ (i : Nat) (x : Int), t = .int .i64 i ∧ s = .int .i64 x ∧ i ≤ l2 ∧ -1 ≤ x ∧ x ≤ 100000 ∧ res = To.room D x (ps.drop i) ∧ Quiet0 W0 wr) (fun _ t _ => l2 - (intOf t).toNat)
        case atStart => exact ⟨0, m - 1, rfl, rfl, Nat.zero_le _, by omega, by omega, by rw [To.drop_zero]; exact HRES.out, HQ1.out⟩
        case round =>
          obtain ⟨i, x, rfl, rfl, hi, hx0, hx1, hr, hq⟩ := hrel
          have HR := Lib.hid hr
          have HQ := Lib.hid hq
          have g2 := HB.out wr hq
          clear hr hq
          by_cases hlt : i < l2
          · have hlt' : (i : Int) < l2 := by omega
            by_cases hx : 0 ≤ x
            · obtain ⟨b, off, hd, qs, p1, m1, d1, p2, m2, d2, rfl, hdr, hg, hRb, ⟨e0, e1, e2, e3, e4, e5, e6, e7, e8⟩, hsl, ht1⟩ := (HS.out.stay (HQ0.out.trans HQ.out)).nth hlt
              have hna := allT_get ps i hd qs HNM.out hg
              have HC := Lib.hid (IH.out i hd qs hg wr R p1 m1 d1 p2 m2 d2 D x ((d : Int) - 1) (by have := HDD.out; omega) hsl ht1 hna.1 hna.2 hx hx1 hD1)
              obtain ⟨y, hy⟩ : ∃ y, y = roomOne D x hd qs := ⟨_, rfl⟩
              have hyb : -1 ≤ y ∧ y ≤ 100000 := by have := roomOne_le D x hd qs hx; omega
              have HY : Hid (res = To.room D y (ps.drop (i + 1))) := by
                show _ = _
                rw [HR.out, hdr, hy, room_cons _ _ _ _ _ hx]
              rw [← hy] at HC
              unfold tmv at HC
              clear hdr hg hsl ht1 hy hRb hna
              go_wp2_with fail
              refine HC.out.mono ?_; rintro e w1 ⟨rfl, hq1⟩
              have HQ1 := Lib.hid (HQ.out.trans hq1)
              clear hq1
              go_wp2_with fail
              go_roundw
              case rel => exact ⟨i + 1, y, by go_num, rfl, by omega, hyb.1, hyb.2, HY.out, HQ1.out⟩
              case measure => simp [intOf]; omega
            · have hx' : x < 0 := by omega
              have HY : Hid (res = x) := by show _ = _; rw [HR.out]; exact To.room_neg _ _ _ hx'
              go_wp2_with fail
              go_ret
              exact ⟨by rw [HY.out]; rfl, HQ0.out.trans HQ.out⟩
          · have hlt' : ¬ (i : Int) < l2 := by omega
            have HY : Hid (res = x) := by
              show _ = _
              rw [HR.out, To.drop_end ps i (by have := HL.out; omega)]
              unfold To.room; rfl
            go_wp2_with fail
            go_ret
            exact ⟨by rw [HY.out]; rfl, HQ0.out.trans HQ.out⟩
      · have HF : Hid (roomOne d m h ps = -1) := by show _ = _; unfold roomOne bigH; rw [if_neg hd0, hg]; simp
        rw [HF.out]
        rw [hg] at HG
        clear hd0 hD hg h60
        unfold tmv
        go_enter Tryd.func42, Tryd.ntmps42
        go_wp2_with fail
        refine (HG.out _ (Quiet0.alloc _ _)).mono ?_; rintro e w1 ⟨rfl, hq1⟩
        go_wp2_with fail
        go_ret
        exact ⟨rfl, (Quiet0.alloc _ _).trans hq1⟩
/-- Great: is there more than is asked of? -/
def greatTm (h : Nd) (ps : To) : Bool := decide (roomOne 60 200 h ps < 0)
theorem greatTm_no {h : Nd} {ps : To} (e : greatTm h ps = false) : bigH h = false ∧ allT (fun h => bigH h = false) ps ∧ ps.size + 1 ≤ 200 ∧ ps.depth + 1 ≤ 60 := by
  unfold greatTm at e
  have h0 : 0 ≤ roomOne 60 200 h ps := by simpa using e
  unfold roomOne at h0
  rw [if_neg (by omega)] at h0
  cases hb : bigH h
  · rw [hb] at h0
    simp only [Bool.false_eq_true, if_false] at h0
    obtain ⟨h1, h2, h3, h4⟩ := To.room_all ps _ _ h0
    exact ⟨rfl, h4, by omega, by omega⟩
  · rw [hb] at h0; simp at h0
theorem bigH_no {h : Nd} (e : bigH h = false) : h.nm.size ≤ 60 ∧ h.tp.size + 1 ≤ 300 := by
  unfold bigH at e
  rw [Bool.or_eq_false_iff] at e
  exact ⟨by simpa using e.1, great_size e.2⟩
set_option maxHeartbeats 1000000 in
theorem greatTm_any (h : Nd) (ps : To) (w : World) (R : Nat → Prop) (o1 : Option Addr) (l1 c1 : Nat) (o2 : Option Addr) (l2 c2 : Nat) (hs1 : SlcIn R w o1 l1 h.tp) (hs : TSlc R w o2 l2 ps) (hnm : h.nm.size ≤ 9223372036854775807) (hnms : allT (fun h => h.nm.size ≤ 9223372036854775807) ps) :
    Calls Tryd.prog 15 #[tmv h o1 l1 c1 o2 l2 c2] w fun e w' => e = .returned (.bool (greatTm h ps)) ∧ Quiet0 w w' := by
  have HC := Lib.hid (fun (W : World) (hq : Quiet0 w W) => roomT_any h ps W R o1 l1 c1 o2 l2 c2 60 200 60 rfl (hs1.stay hq) (hs.stay hq) hnm hnms (by omega) (by omega) (by omega))
  unfold greatTm
  generalize roomOne 60 200 h ps = r at *
  clear hs1 hs hnm hnms
  unfold tmv at *
  go_enter Tryd.func15, Tryd.ntmps15
  go_wp2_with fail
  refine (HC.out _ (Quiet0.alloc _ _)).mono ?_; rintro e w1 ⟨rfl, hq⟩
  go_wp2_with fail
  go_ret
  exact ⟨rfl, (Quiet0.alloc _ _).trans hq⟩
end Go.Proofs.YtnfodiedalhlhaaDoor
end
section
/-
  What closes a law's row: it returned true, and of what was there nothing has turned. No condition.
-/
namespace Go.Proofs.YtnfodiedalhlhaaDoor
open Go.ChangeShapes Go.WideShapes Go.ChangeAt Go.RowKit

theorem own : ownKnob Tryd.prog.godebug = none := by kernel_rfl

def typesRead (P : Program) (ts : List TypeId) : Bool := ts.all fun t => P.readableRec t && decide (t < P.types.size)

theorem below_trodAll {H : Type} {enc : TypeId × Value → H} {P : Program} (hl : laidOutB P = true) {W W' : World} (hb : Below W.heap.size W W') :
    ∀ (ts : List TypeId) (vs : List Value) (ds : List (DataW H)) (ps : List MemPlace), typesRead P ts = true → DataW.TrodAll enc P W 0 (fun _ => true) true ts vs ds ps → (∀ x ∈ ps, x.block < W.heap.size) →
      DataW.TrodAll enc P W' 0 (fun b => decide (b < W.heap.size)) true ts vs ds ps
  | [], vs, ds, ps, _, h, _ => by
    obtain ⟨rfl, rfl, rfl⟩ := trodAll_nil h
    exact trodAll_mk0
  | t :: ts, vs, ds, ps, hr, h, hlt => by
    obtain ⟨v, vs', d, ds', p, q, rfl, rfl, rfl, h1, h2⟩ := trodAll_cons h
    simp only [typesRead, List.all_cons, Bool.and_eq_true, decide_eq_true_eq] at hr
    exact trodAll_cons_mk (Below.trod hl hr.1.1 hr.1.2 h1 hb (fun x hx => hlt x (List.mem_append_left _ hx)))
      (below_trodAll hl hb ts vs' ds' q hr.2 h2 (fun x hx => hlt x (List.mem_append_right _ hx)))

theorem law_post {H : Type} {enc : TypeId × Value → H} {f : Func} {s : ChangeSpec} {W W' : World} {args : Array Value} {ds gs : List (DataW H)} {before : List MemPlace}
    (hW : DataW.Whole enc Tryd.prog f.params.toList s.vars false W args.toList ds gs before) (hv : s.vars = []) (hs : (s.fn H (ds ++ gs)).results = [.lit (.bool true)]) (hs2 : (s.fn H (ds ++ gs)).args = ds) (hs3 : (s.fn H (ds ++ gs)).vars = [])
    (hres : f.resultTypes = #[4]) (hread : typesRead Tryd.prog f.params.toList = true) (hb : Below W.heap.size W W') :
    s.post enc Tryd.prog f false true false false W args (.bool true) W' := by
  have hlt := hW.lt
  have hW' := hW
  obtain ⟨p, q, hA, hV, rfl, hfz, hnd⟩ := hW
  refine ⟨ds, gs, _, [], p, [], hW', ?_, ?_, ?_, hb.frame _, fun h => by cases h⟩
  · rw [hs, hres]; exact trodAll_cons_mk (shut_bool Tryd.underlying4 _) trodAll_mk0
  · rw [hs2]; exact below_trodAll (by kernel_rfl) hb _ _ _ _ hread hA (fun x hx => by have := hlt x (List.mem_append_left _ hx); simpa using this)
  · rw [hs3, hv]; exact rfl
end Go.Proofs.YtnfodiedalhlhaaDoor
end
