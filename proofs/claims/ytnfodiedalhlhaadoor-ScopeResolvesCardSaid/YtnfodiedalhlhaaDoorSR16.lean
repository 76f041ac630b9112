/-
  Texts laid together (ScResLaw, TeLaid): what each one proves, and its conditions, stands at its head.
-/
import Derived.LaidMore
import Derived.Stop.Joined
import Derived.LaidLaws
import Derived.Lib.LaidTab
import Derived.Stop.LaidErr
import Derived.Test.YtnfodiedalhlhaaDoorRows
import Derived.Test.YtnfodiedalhlhaaDoorSR1
import Derived.Test.YtnfodiedalhlhaaDoorSR2
import Derived.Test.YtnfodiedalhlhaaDoorSR3
import Derived.Test.YtnfodiedalhlhaaDoorSR4
import Derived.Test.YtnfodiedalhlhaaDoorSR5
import Derived.Test.YtnfodiedalhlhaaDoorSR6
import Derived.Test.YtnfodiedalhlhaaDoorSR7
import Derived.Test.YtnfodiedalhlhaaDoorSR8
import Derived.Test.YtnfodiedalhlhaaDoorSR9
import Derived.Test.YtnfodiedalhlhaaDoorSR10
import Derived.Test.YtnfodiedalhlhaaDoorSR11
import Derived.Test.YtnfodiedalhlhaaDoorSR12
import Derived.Test.YtnfodiedalhlhaaDoorSR13
import Derived.Test.YtnfodiedalhlhaaDoorSR14
import Derived.Test.YtnfodiedalhlhaaDoorSR15
section
/-
  The law ScopeResolves: it returns true. Conditions: the term lies in memory as told; the table of blanks holds what its initialiser lays.
-/
namespace Go.Proofs.YtnfodiedalhlhaaDoor
open Go.RowKit Go.Shelf
namespace Sc

theorem st_carry {w W w3 : World} {o : Option Addr} {l : List ByteArray} {G : Prop} (h : StrAt w o l) (hq : Quiet0 w W) (hqx : Quiet0 W w3) (k : StrAt w3 o l → G) : G := k (StrAt.stay h (hq.trans hqx))
def rsvL (x : Nd × To) : List Nd → (Nd × To) × (Int × Int) × Int
  | [] => (x, (0, 0), 0)
  | y :: _ => ((zeroN, .nil), (y.fr, y.en), 5)
/-- an owned row of texts, as names -/
theorem nm_of_row {w : World} {B : Nat} {o : Option Addr} {n c : Nat} {l : List ByteArray} (h : StrRow w B (.slice o n c) l) (hn : l.length = n) (hm : n ≤ maxLen) : NmIn (fun _ => True) w o n l.reverse := by
  subst hn
  refine ⟨by simp, hm, fun h0 => ?_⟩
  rcases h.own.2 with ⟨_, h2⟩ | ⟨g, cap, cur, he, _⟩
  · omega
  · injection he with h1 h2 h3
    subst h1
    refine ⟨g, rfl, trivial, fun i s hi => ?_⟩
    rw [List.reverse_reverse] at hi
    have := h.own.cells (g := g) rfl i (.string s) (by unfold strs; rw [List.getElem?_map, hi]; rfl)
    simpa [Addr.add_lit] using this
theorem ix_has (acc : List ByteArray) (s : ByteArray) : hasB acc s = decide (¬ ix acc.reverse s < 0) := by
  rw [Bool.eq_iff_iff, hasB_iff, decide_eq_true_eq]
  have hg := ix_ge acc.reverse s
  constructor
  · intro hm h
    by_cases hx : s ∈ acc.reverse
    · obtain ⟨i, hi⟩ := List.mem_iff_getElem?.1 hx
      unfold ix at h
      rcases ixE_spec acc.reverse s 0 with ⟨_, h2⟩ | ⟨j, h1, _, _⟩
      · exact h2 hx
      · omega
    · exact hx (List.mem_reverse.2 hm)
  · intro h
    apply Classical.byContradiction
    intro hm
    exact h (by rw [ixE_miss (fun hx => hm (List.mem_reverse.1 hx))]; omega)
set_option maxRecDepth 100000 in
set_option maxHeartbeats 8000000 in
theorem sr_right (h : Nd) (ps : To) (w : World) (o1 : Option Addr) (l1 c1 : Nat) (o2 : Option Addr) (l2 c2 : Nat) (h1 : SlcIn (Low w) w o1 l1 h.tp) (h2 : TSlc (Low w) w o2 l2 ps) (ho : OkO h) (hop : allT OkO ps) (ht : Lx.Spaces w) (hg : greatTm h ps = false) (hr : RT h ps = true) :
    Calls Tryd.prog 4 #[tmv h o1 l1 c1 o2 l2 c2] w fun e w' => e = .returned (.bool true) ∧ Quiet0 w w' := by
  have hsm := small_of hg ho hop
  obtain ⟨hvk, hokf, _⟩ := RT_ok hr
  have hav := okF_allV ps hokf
  obtain ⟨W0, hW0⟩ : ∃ W0, W0 = w.alloc (.cells (cells9 h o1 l1 c1 o2 l2 c2) 30) := ⟨_, rfl⟩
  have hq0 : Quiet0 w W0 := by rw [hW0]; exact Quiet0.alloc _ _
  have HQ0 := Lib.hid hq0
  have HC : Hid (∀ W, Quiet0 W0 W → Cells9 W w.heap.size 0 h o1 l1 c1 o2 l2 c2) := by
    intro W hq; rw [hW0] at hq; exact box9 w h o1 l1 c1 o2 l2 c2 _ W hq
  have HG := Lib.hid (great8_any h ps w W0 o1 l1 c1 o2 l2 c2 h1 h2 ho hop hq0)
  rw [hg] at HG
  have HA : Hid (∀ W, Quiet0 W0 W → Calls Tryd.prog 11 #[] W fun e w' => e = .returned (.bool true) ∧ Quiet0 W w') := fun W hq => awake8_any W (ht.stay (hq0.trans hq))
  have HRS : Hid (∀ W, Quiet0 W0 W → Calls Tryd.prog 13 #[tmv h o1 l1 c1 o2 l2 c2] W (RsvQ W h ps)) := fun W hq => resolve_any h ps W _ o1 l1 c1 o2 l2 c2 (h1.stay (hq0.trans hq)) (h2.stay (hq0.trans hq)) (by have := hsm.size; omega) hsm.good (ht.stay (hq0.trans hq))
  have HRR : Hid (∀ W, Quiet0 W0 W → Calls Tryd.prog 16 #[tmv h o1 l1 c1 o2 l2 c2] W fun e w' => e = .returned (.bool true) ∧ Quiet0 W w') := fun W hq => by
    have := refRightT_any h ps W _ o1 l1 c1 o2 l2 c2 (h1.stay (hq0.trans hq)) (h2.stay (hq0.trans hq)) hsm.right.1 hsm.right.2
    rw [show allS (.cons h ps .nil) = true from hr] at this
    exact this
  obtain ⟨L, hL⟩ : ∃ L, L = free1 [] h ps := ⟨_, rfl⟩
  obtain ⟨NM, hNM⟩ : ∃ NM, NM = dd L := ⟨_, rfl⟩
  obtain ⟨BD, hBD⟩ : ∃ BD, BD = boundL (.cons h ps .nil) := ⟨_, rfl⟩
  have HRF : Hid (∀ W, Quiet0 W0 W → Calls Tryd.prog 14 #[tmv h o1 l1 c1 o2 l2 c2, .slice none 0 0] W (ListQ W L)) := fun W hq => by
    rw [hL]; exact refFree_any h ps W _ (fun _ => True) o1 l1 c1 o2 l2 c2 none 0 0 [] (h2.stay (hq0.trans hq)) (NmIn.nil _ _ _) (by have := hsm.size; omega) hvk hav
  have HFN : Hid (∀ W, Quiet0 W0 W → Calls Tryd.prog 18 #[tmv h o1 l1 c1 o2 l2 c2] W fun e w' => ∃ o c, e = .returned (.slice o NM.length c) ∧ StrAt w' o NM ∧ Quiet0 W w') := fun W hq => (freeN_any h ps W _ o1 l1 c1 o2 l2 c2 (h1.stay (hq0.trans hq)) (h2.stay (hq0.trans hq)) (by have := hsm.size; omega) hsm.good (ht.stay (hq0.trans hq))).mono (fun e w' hp => st_some (by rw [show freeN h ps = NM from by unfold freeN; rw [hr, hNM, hL]; rfl] at hp; exact hp))
  have HBN : Hid (∀ W, Quiet0 W0 W → Calls Tryd.prog 19 #[tmv h o1 l1 c1 o2 l2 c2] W fun e w' => ∃ o c, e = .returned (.slice o BD.length c) ∧ StrAt w' o BD ∧ Quiet0 W w') := fun W hq => (boundN_any h ps W _ o1 l1 c1 o2 l2 c2 (h1.stay (hq0.trans hq)) (h2.stay (hq0.trans hq)) (by have := hsm.size; omega) hsm.good (ht.stay (hq0.trans hq))).mono (fun e w' hp => st_some (by rw [show boundN h ps = BD from by unfold boundN; rw [hr, hBD]; rfl] at hp; exact hp))
  have HRB : Hid (∀ W, Quiet0 W0 W → Calls Tryd.prog 22 #[tmv h o1 l1 c1 o2 l2 c2] W fun e w' => ∃ o c, e = .returned (.slice o BD.length c) ∧ StrAt w' o BD ∧ Quiet0 W w') := fun W hq => (refBound_any h ps W _ o1 l1 c1 o2 l2 c2 (h2.stay (hq0.trans hq)) (by have := hsm.size; omega)).mono (fun e w' hp => st_some (by rw [← hBD] at hp; exact hp))
  have HRE : Hid (∀ W, Quiet0 W0 W → Calls Tryd.prog 23 #[tmv h o1 l1 c1 o2 l2 c2, .slice none 0 0] W fun x w' => ∃ q1 d1 q2 d2, x = .returned (tmv (resH h ps) q1 l1 d1 q2 l2 d2) ∧ SlcIn (fun _ => True) w' q1 l1 h.tp ∧ TSlc (fun _ => True) w' q2 l2 (resP h ps) ∧ Quiet0 W w') := fun W hq => by
    refine (refRes_any h ps W (Low W) (fun k => k < W.heap.size) o1 l1 c1 o2 l2 c2 none 0 0 [] ((h1.stay (hq0.trans hq)).mono (fun k hk _ => hk)) ((h2.stay (hq0.trans hq)).mono (fun k hk _ => hk)) (NmIn.nil _ _ _) (by have := hsm.size; omega) hvk hav (fun k hk => hk) (fun k hk => hk)).mono ?_
    rintro x w' ⟨q2, d2, rfl, hk2, hq'⟩
    exact ⟨o1, c1, q2, d2, rfl, ((h1.stay (hq0.trans hq)).stay hq').mono (fun _ _ _ => trivial), hk2.mono (fun _ _ _ => trivial), hq'⟩
  have HEQ : Hid (∀ (W : World) (u1 : Option Addr) (m1 e1 : Nat) (u2 : Option Addr) (m2 e2 : Nat) (v1 : Option Addr) (f1 : Nat) (v2 : Option Addr) (f2 : Nat), SlcIn (fun _ => True) W u1 m1 (resH h ps).tp → TSlc (fun _ => True) W u2 m2 (resP h ps) → SlcIn (fun _ => True) W v1 l1 h.tp → TSlc (fun _ => True) W v2 l2 (resP h ps) → Calls Tryd.prog 17 #[tmv (resH h ps) u1 m1 e1 u2 m2 e2, tmv (resH h ps) v1 l1 f1 v2 l2 f2] W fun e w' => e = .returned (.bool true) ∧ Quiet0 W w') := fun W u1 m1 e1 u2 m2 e2 v1 f1 v2 f2 k1 k2 k3 k4 => by
    have := refEqualT_any (resH h ps) (resP h ps) (resH h ps) (resP h ps) W (fun _ => True) u1 m1 e1 u2 m2 e2 v1 l1 f1 v2 l2 f2 k1 k2 (by rw [resH_tp]; exact k3) k4
    rw [alikeT_refl] at this; exact this
  have hrv : rsvP h ps = rsvL (resH h ps, resP h ps) L := by rw [hL]; unfold rsvP; rw [if_pos hr]; cases free1 [] h ps <;> rfl
  have HRV := Lib.hid hrv
  have HNM := Lib.hid hNM
  have hlz : L.length ≤ 200 := by have := free1_len [] h ps; rw [← hL] at this; have := hsm.size; omega
  have hnz : BD.length ≤ 1000000 := by have := bound_len (.cons h ps .nil); rw [← hBD] at this; simp only [To.size] at this; have := hsm.size; omega
  have HRT := Lib.hid (resH_tp h ps)
  clear h1 h2 ho hop ht hg hq0 hsm hr hvk hokf hav hL hBD hrv hNM
  unfold tmv at HG HRS HRR HRF HFN HBN HRB HRE HEQ ⊢
  generalize resH h ps = gR at *
  generalize resP h ps = gP at *
  go_enter Tryd.func4, Tryd.ntmps4
  go_upto_region 1 with fail
  rw [← hW0]
  clear hW0
  generalize w.heap.size = B at *
  obtain ⟨a0, a1, a2, a3, a4, a5, a6, a7, a8⟩ := HC.out W0 (Quiet0.refl _)
  go_wp2_with fail
  refine HG.out.mono ?_; rintro x w1 ⟨rfl, hq1⟩
  have HQ1 := Lib.hid hq1
  clear hq1 a0 a1 a2 a3 a4 a5 a6 a7 a8
  obtain ⟨a0, a1, a2, a3, a4, a5, a6, a7, a8⟩ := HC.out w1 HQ1.out
  go_wp2_with fail
  refine (HRS.out _ HQ1.out).mono ?_; rintro x w2 ⟨g, gs, q1, m1, d1, q2, m2, d2, p, er, rfl, hrv, hg1, hg2, hq2⟩
  have HRVQ := Lib.hid (HRV.out.symm.trans hrv)
  have HQ2 := Lib.hid (HQ1.out.trans hq2)
  clear hrv hq2 a0 a1 a2 a3 a4 a5 a6 a7 a8
  unfold tmv
  obtain ⟨W3, hW3⟩ : ∃ W3, W3 = (w2.alloc (.cells (cells9 g q1 m1 d1 q2 m2 d2) 30)).alloc (.cells #[.int .i64 p.1, .int .i64 p.2] 28) := ⟨_, rfl⟩
  have hq3 : Quiet0 w2 W3 := by rw [hW3]; exact (Quiet0.alloc _ _).trans (Quiet0.alloc _ _)
  have hb3 : W3.heap[w2.heap.size]? = some (.cells (cells9 g q1 m1 d1 q2 m2 d2) 30 (0, 0)) := by
    rw [hW3, Below.heap_alloc _ _ _ (by simp)]; exact heap_alloc_new w2 _
  have hs3 : W3.heap[w2.heap.size + 1]? = some (.cells #[.int .i64 p.1, .int .i64 p.2] 28 (0, 0)) := by
    rw [hW3]
    have := heap_alloc_new (w2.alloc (.cells (cells9 g q1 m1 d1 q2 m2 d2) 30)) (.cells #[.int .i64 p.1, .int .i64 p.2] 28)
    simpa using this
  have HU : Hid (∀ W, Quiet0 W3 W → Cells9 W w2.heap.size 0 g q1 m1 d1 q2 m2 d2 ∧ W.cell? ⟨w2.heap.size + 1, 0, none⟩ = some (.int .i64 p.1) ∧ W.cell? ⟨w2.heap.size + 1, 1, none⟩ = some (.int .i64 p.2)) := fun W hq => ⟨(cells9_block hb3).fr hq (fun h => h), (span_cells (blk_after hq hs3)).1, (span_cells (blk_after hq hs3)).2.1⟩
  have HG1 : Hid (SlcIn (fun _ => True) W3 q1 m1 g.tp) := (hg1.stay hq3).mono (fun _ _ _ => trivial)
  have HG2 : Hid (TSlc (fun _ => True) W3 q2 m2 gs) := (hg2.stay hq3).mono (fun _ _ _ => trivial)
  have HQ3 := Lib.hid (HQ2.out.trans hq3)
  clear hq3 hb3 hs3 hg1 hg2
  go_upto_region 4 with fail
  change Code.wp _ _ _ _ ((w2.alloc (.cells (cells9 g q1 m1 d1 q2 m2 d2) 30)).alloc (.cells #[.int .i64 p.1, .int .i64 p.2] 28))
  rw [← hW3]
  clear hW3
  generalize w2.heap.size = ub at *
  obtain ⟨a0, a1, a2, a3, a4, a5, a6, a7, a8⟩ := HC.out W3 HQ3.out
  go_wp2_with fail
  refine (HRR.out _ HQ3.out).mono ?_; rintro x w4 ⟨rfl, hq4⟩
  have HQ34 := Lib.hid hq4
  have HQ4 := Lib.hid (HQ3.out.trans hq4)
  clear hq4 a0 a1 a2 a3 a4 a5 a6 a7 a8
  obtain ⟨a0, a1, a2, a3, a4, a5, a6, a7, a8⟩ := HC.out w4 HQ4.out
  generalize hn : L.length = n at *
  have HN := Lib.hid hn
  clear hn
  go_wp2_with fail
  refine (HRF.out _ HQ4.out).mono ?_; rintro x w5 ⟨o, c, xs, rfl, hl, hq5⟩
  have HQ35 := Lib.hid (HQ34.out.trans hq5)
  have HQ5 := Lib.hid (HQ4.out.trans hq5)
  have HL := Lib.hid hl.heads
  rw [HN.out]
  clear hl hq5 a0 a1 a2 a3 a4 a5 a6 a7 a8
  go_wp2_with fail
  go_loopw [7, 8] (fun v t wr => ∃ (i m mc : Nat) (mo : Option Addr) (acc : List ByteArray), t = .int .i64 i ∧ v = .slice mo m mc ∧ i ≤ n ∧ acc.length = m ∧ m ≤ i ∧ ((L.drop i).map (·.nm)).foldl ddS acc = NM ∧ StrRow wr w5.heap.size (.slice mo m mc) acc ∧ Quiet0 w5 wr) (fun _ t _ => n - (intOf t).toNat)
  case atStart => exact ⟨0, 0, 0, none, [], rfl, rfl, Nat.zero_le _, rfl, Nat.le_refl _, by rw [HNM.out]; rfl, StrRow.nil _ _, Quiet0.refl _⟩
  case round =>
    obtain ⟨i, m, mc, mo, acc, rfl, rfl, hi, hm, hmi, hf, hrow, hq⟩ := hrel
    have HM := Lib.hid hm
    have HF := Lib.hid hf
    have HROW := Lib.hid hrow
    have HQ := Lib.hid hq
    clear hm hf hrow hq
    by_cases hlt : i < n
    · have hlt' : (i : Int) < n := by omega
      obtain ⟨y, hy⟩ : ∃ y, L[i]? = some y := ⟨_, List.getElem?_eq_getElem (by have := HN.out; omega)⟩
      obtain ⟨g9, off, u1, v1, e1, u2, v2, e2, rfl, hc9⟩ := (HeadsAt.stay HL.out HQ.out) i y hy
      have hdy : L.drop i = y :: L.drop (i + 1) := by
        have hlt2 : i < L.length := by have := HN.out; omega
        rw [List.drop_eq_getElem_cons hlt2]; congr 1
        rw [List.getElem?_eq_getElem hlt2] at hy; exact Option.some.inj hy
      have HD : Hid (((L.drop (i + 1)).map (·.nm)).foldl ddS (ddS acc y.nm) = NM) := by show _ = _; rw [← HF.out, hdy]; rfl
      have hnm := nm_of_row HROW.out HM.out (by unfold maxLen; omega)
      have HI := Lib.hid (refIndex_any (fun _ => True) acc.reverse y.nm mo m mc wr hnm (by omega))
      have hih := ix_has acc y.nm
      obtain ⟨q0, q1', q2', q3', q4', q5', q6', q7', q8'⟩ := hc9
      clear hy hdy hnm
      generalize ix acc.reverse y.nm = r at *
      by_cases hx : r < 0
      · have HS : Hid (ddS acc y.nm = acc ++ [y.nm]) := by show _ = _; unfold ddS; rw [hih]; simp [hx]
        clear hih
        go_wp2_with fail
        refine HI.out.mono ?_; rintro x w6 ⟨rfl, rfl⟩
        go_wp2_with (at_builtin; go_must (refine wpList_append_one wr rfl (.tmp 62) (.tmp 68) 40 rfl 9 _ 1 16 elemStr (.slice mo m mc) m (strs acc) rfl (HM.out ▸ HROW.out.own) #[.string y.nm] rfl rfl ?c1 ?c2 ?c3 ?_))
        case c1 => simp [Value.oneCell']
        case c2 => unfold maxLen; omega
        case c3 => omega
        intro g4 c4 w7 ho hf4 hg4
        have HR4 : Hid (StrRow w7 w5.heap.size (.slice (some ⟨g4, 0, none⟩) (m + 1) c4) (acc ++ [y.nm])) := by
          have hm := HM.out
          subst hm
          exact StrRow.snoc HROW.out ho hg4 HQ.out.size
        have HQ4' : Hid (Quiet0 w5 w7) := HQ.out.trans' hf4 (fun k hk h => by have h1 := HROW.out.low k h; omega)
        clear ho hf4 hg4
        go_wp2_with fail
        go_roundw
        case rel => exact ⟨i + 1, m + 1, c4, some ⟨g4, 0, none⟩, acc ++ [y.nm], by go_num, rfl, by omega, by simp [HM.out], by omega, by rw [← HD.out, HS.out], HR4.out, HQ4'.out⟩
        case measure => simp [intOf] <;> omega
      · have HS : Hid (ddS acc y.nm = acc) := by show _ = _; unfold ddS; rw [hih]; simp [hx]
        clear hih
        go_wp2_with fail
        refine HI.out.mono ?_; rintro x w6 ⟨rfl, rfl⟩
        go_wp2_with fail
        go_roundw
        case rel => exact ⟨i + 1, m, mc, mo, acc, by go_num, rfl, by omega, HM.out, by omega, by rw [← HD.out, HS.out], HROW.out, HQ.out⟩
        case measure => simp [intOf] <;> omega
    · have hlt' : ¬ (i : Int) < n := by omega
      have hacc : acc = NM := by
        have := HF.out
        rw [List.drop_eq_nil_of_le (by have := HN.out; omega)] at this
        exact this
      subst hacc
      obtain ⟨o', c', he, hmx, hat⟩ := HROW.out.form
      injection he with he1 he2 he3
      subst he1
      have HAT := Lib.hid hat
      clear hmx hat he2 he3
      have HKW : Hid (∀ W, Quiet0 wr W → Quiet0 W0 W) := fun W hq => HQ5.out.trans (HQ.out.trans hq)
      have HK3 : Hid (∀ W, Quiet0 wr W → Quiet0 W3 W) := fun W hq => HQ35.out.trans (HQ.out.trans hq)
      have HSB : Hid (∀ W, Quiet0 wr W → (W.cell? ⟨B, 0, none⟩ = some (.int .i64 h.k) ∧ W.cell? ⟨B, 1, none⟩ = some (.string h.nm) ∧ W.cell? ⟨B, 2, none⟩ = some (.int .i64 h.n) ∧ W.cell? ⟨B, 3, none⟩ = some (.int .i64 h.tk) ∧ W.cell? ⟨B, 4, none⟩ = some (.int .i64 h.tn) ∧ W.cell? ⟨B, 5, none⟩ = some (.slice o1 l1 c1) ∧ W.cell? ⟨B, 6, none⟩ = some (.slice o2 l2 c2) ∧ W.cell? ⟨B, 7, none⟩ = some (.int .i64 h.fr) ∧ W.cell? ⟨B, 8, none⟩ = some (.int .i64 h.en))) := fun W hq => HC.out W (HKW.out W hq)
      have HTX1 : Hid (∀ (W : World) (fo : Option Addr) (fc : Nat), StrAt W fo acc → Quiet0 wr W → Calls Tryd.prog 21 #[.slice fo acc.length fc, .slice mo m mc] W fun e w' => e = .returned (.bool true) ∧ Quiet0 W w') := fun W fo fc hs hq => by
        have := refTexts_any acc acc fo fc mo mc W hs (HAT.out.stay hq) (by have := HM.out; omega) (by have := HM.out; omega)
        rw [HM.out] at this ⊢
        simpa using this
      have HTX2 : Hid (∀ (W : World) (bo : Option Addr) (bc : Nat) (ro : Option Addr) (rc : Nat), StrAt W bo BD → StrAt W ro BD → Calls Tryd.prog 21 #[.slice bo BD.length bc, .slice ro BD.length rc] W fun e w' => e = .returned (.bool true) ∧ Quiet0 W w') := fun W bo bc ro rc hs hs' => by
        have := refTexts_any BD BD bo bc ro rc W hs hs' hnz hnz
        simpa using this
      go_upto_region 13 with fail
      go_cut [82] (fun v wx => v = .bool false ∧ Quiet0 wr wx)
      case first =>
        have hqc := Quiet0.refl wr
        go_region_held3 (fun W => (W.cell? ⟨B, 0, none⟩ = some (.int .i64 h.k) ∧ W.cell? ⟨B, 1, none⟩ = some (.string h.nm) ∧ W.cell? ⟨B, 2, none⟩ = some (.int .i64 h.n) ∧ W.cell? ⟨B, 3, none⟩ = some (.int .i64 h.tk) ∧ W.cell? ⟨B, 4, none⟩ = some (.int .i64 h.tn) ∧ W.cell? ⟨B, 5, none⟩ = some (.slice o1 l1 c1) ∧ W.cell? ⟨B, 6, none⟩ = some (.slice o2 l2 c2) ∧ W.cell? ⟨B, 7, none⟩ = some (.int .i64 h.fr) ∧ W.cell? ⟨B, 8, none⟩ = some (.int .i64 h.en)))
          (((refine HSB.out _ ?_); (repeat (first | with_reducible exact hqc | with_reducible exact Quiet0.refl _ | with_reducible refine Quiet0.trans ?_ (Quiet0.alloc _ _) | with_reducible refine Quiet0.trans ?_ (Quiet0.drew _) | fail))))
          (first
            | (go_at_call 18; (with_reducible refine Calls.mono (HFN.out _ (HKW.out _ ?hq)) ?_); (case hq => (repeat (first | with_reducible exact hqc | with_reducible exact Quiet0.refl _ | with_reducible refine Quiet0.trans ?_ (Quiet0.alloc _ _) | with_reducible refine Quiet0.trans ?_ (Quiet0.drew _) | fail))); rintro e wx ⟨fo, fc, rfl, hat1, hqx⟩; (refine with_q (w0 := wr) ?hq2 hqx ?_); (case hq2 => (repeat (first | with_reducible exact hqc | with_reducible exact Quiet0.refl _ | with_reducible refine Quiet0.trans ?_ (Quiet0.alloc _ _) | with_reducible refine Quiet0.trans ?_ (Quiet0.drew _) | fail))); intro hqc)
            | ((go_at_call 21; (with_reducible refine Calls.mono (HTX1.out _ _ _ (StrAt.stay hat1 ?h1) ?hq) ?_)); (case h1 => (repeat (first | with_reducible exact Quiet0.refl _ | with_reducible refine Quiet0.trans ?_ (Quiet0.alloc _ _) | with_reducible refine Quiet0.trans ?_ (Quiet0.drew _) | fail))); (case hq => (repeat (first | with_reducible exact hqc | with_reducible exact Quiet0.refl _ | with_reducible refine Quiet0.trans ?_ (Quiet0.alloc _ _) | with_reducible refine Quiet0.trans ?_ (Quiet0.drew _) | fail))); rintro e wx ⟨rfl, hqx⟩; (refine with_q (w0 := wr) ?hq2 hqx ?_); (case hq2 => (repeat (first | with_reducible exact hqc | with_reducible exact Quiet0.refl _ | with_reducible refine Quiet0.trans ?_ (Quiet0.alloc _ _) | with_reducible refine Quiet0.trans ?_ (Quiet0.drew _) | fail))); intro hqc)
            | (go_at_call 19; (with_reducible refine Calls.mono (HBN.out _ (HKW.out _ ?hq)) ?_); (case hq => (repeat (first | with_reducible exact hqc | with_reducible exact Quiet0.refl _ | with_reducible refine Quiet0.trans ?_ (Quiet0.alloc _ _) | with_reducible refine Quiet0.trans ?_ (Quiet0.drew _) | fail))); skip; rintro e wx ⟨bo, bc, rfl, hat2, hqx⟩; (try (refine st_carry hat3 ?hq3 hqx ?_; (case hq3 => (repeat (first | with_reducible exact Quiet0.refl _ | with_reducible refine Quiet0.trans ?_ (Quiet0.alloc _ _) | with_reducible refine Quiet0.trans ?_ (Quiet0.drew _) | fail))); intro hat3)); (refine with_q (w0 := wr) ?hq2 hqx ?_); (case hq2 => (repeat (first | with_reducible exact hqc | with_reducible exact Quiet0.refl _ | with_reducible refine Quiet0.trans ?_ (Quiet0.alloc _ _) | with_reducible refine Quiet0.trans ?_ (Quiet0.drew _) | fail))); intro hqc)
            | (go_at_call 22; (with_reducible refine Calls.mono (HRB.out _ (HKW.out _ ?hq)) ?_); (case hq => (repeat (first | with_reducible exact hqc | with_reducible exact Quiet0.refl _ | with_reducible refine Quiet0.trans ?_ (Quiet0.alloc _ _) | with_reducible refine Quiet0.trans ?_ (Quiet0.drew _) | fail))); skip; rintro e wx ⟨ro, rc, rfl, hat3, hqx⟩; (try (refine st_carry hat2 ?hq3 hqx ?_; (case hq3 => (repeat (first | with_reducible exact Quiet0.refl _ | with_reducible refine Quiet0.trans ?_ (Quiet0.alloc _ _) | with_reducible refine Quiet0.trans ?_ (Quiet0.drew _) | fail))); intro hat2)); (refine with_q (w0 := wr) ?hq2 hqx ?_); (case hq2 => (repeat (first | with_reducible exact hqc | with_reducible exact Quiet0.refl _ | with_reducible refine Quiet0.trans ?_ (Quiet0.alloc _ _) | with_reducible refine Quiet0.trans ?_ (Quiet0.drew _) | fail))); intro hqc)
            | ((go_at_call 21; (with_reducible refine Calls.mono (HTX2.out _ _ _ _ _ (StrAt.stay hat2 ?h1) (StrAt.stay hat3 ?h2)) ?_)); (case h1 => (repeat (first | with_reducible exact Quiet0.refl _ | with_reducible refine Quiet0.trans ?_ (Quiet0.alloc _ _) | with_reducible refine Quiet0.trans ?_ (Quiet0.drew _) | fail))); (case h2 => (repeat (first | with_reducible exact Quiet0.refl _ | with_reducible refine Quiet0.trans ?_ (Quiet0.alloc _ _) | with_reducible refine Quiet0.trans ?_ (Quiet0.drew _) | fail))); rintro e wx ⟨rfl, hqx⟩; (refine with_q (w0 := wr) ?hq2 hqx ?_); (case hq2 => (repeat (first | with_reducible exact hqc | with_reducible exact Quiet0.refl _ | with_reducible refine Quiet0.trans ?_ (Quiet0.alloc _ _) | with_reducible refine Quiet0.trans ?_ (Quiet0.drew _) | fail))); intro hqc)
            | fail)
        all_goals
          go_wp2_with fail
          go_meet
          exact ⟨rfl, hqc⟩
      case rest =>
        rename World => wv
        obtain ⟨rfl, hqx⟩ := hcut
        have HQX := Lib.hid hqx
        have HKX : Hid (∀ W, Quiet0 wv W → Quiet0 W0 W) := fun W hq => HKW.out W (HQX.out.trans hq)
        have HKX3 : Hid (∀ W, Quiet0 wv W → Quiet0 W3 W) := fun W hq => HK3.out W (HQX.out.trans hq)
        have HLX := Lib.hid (HL.out.stay (HQ.out.trans hqx))
        clear hqx
        cases L with
        | nil =>
          have hn0 : n = 0 := HN.out.symm
          subst hn0
          obtain ⟨hr1, hr2⟩ := Prod.mk.inj HRVQ.out
          obtain ⟨hr3, hr4⟩ := Prod.mk.inj hr1
          obtain ⟨hr5, hr6⟩ := Prod.mk.inj hr2
          subst hr3 hr4 hr5 hr6
          have HSX : Hid (∀ W, Quiet0 wv W → (W.cell? ⟨B, 0, none⟩ = some (.int .i64 h.k) ∧ W.cell? ⟨B, 1, none⟩ = some (.string h.nm) ∧ W.cell? ⟨B, 2, none⟩ = some (.int .i64 h.n) ∧ W.cell? ⟨B, 3, none⟩ = some (.int .i64 h.tk) ∧ W.cell? ⟨B, 4, none⟩ = some (.int .i64 h.tn) ∧ W.cell? ⟨B, 5, none⟩ = some (.slice o1 l1 c1) ∧ W.cell? ⟨B, 6, none⟩ = some (.slice o2 l2 c2) ∧ W.cell? ⟨B, 7, none⟩ = some (.int .i64 h.fr) ∧ W.cell? ⟨B, 8, none⟩ = some (.int .i64 h.en)) ∧ (W.cell? ⟨ub, 0, none⟩ = some (.int .i64 gR.k) ∧ W.cell? ⟨ub, 1, none⟩ = some (.string gR.nm) ∧ W.cell? ⟨ub, 2, none⟩ = some (.int .i64 gR.n) ∧ W.cell? ⟨ub, 3, none⟩ = some (.int .i64 gR.tk) ∧ W.cell? ⟨ub, 4, none⟩ = some (.int .i64 gR.tn) ∧ W.cell? ⟨ub, 5, none⟩ = some (.slice q1 m1 d1) ∧ W.cell? ⟨ub, 6, none⟩ = some (.slice q2 m2 d2) ∧ W.cell? ⟨ub, 7, none⟩ = some (.int .i64 gR.fr) ∧ W.cell? ⟨ub, 8, none⟩ = some (.int .i64 gR.en)) ∧ W.cell? ⟨ub + 1, 0, none⟩ = some (.int .i64 0) ∧ W.cell? ⟨ub + 1, 1, none⟩ = some (.int .i64 0)) := fun W hq => ⟨HC.out W (HKX.out W hq), HU.out W (HKX3.out W hq)⟩
          have HGG1 : Hid (∀ W, Quiet0 wv W → SlcIn (fun _ => True) W q1 m1 gR.tp) := fun W hq => HG1.out.stay (HKX3.out W hq)
          have HGG2 : Hid (∀ W, Quiet0 wv W → TSlc (fun _ => True) W q2 m2 gP) := fun W hq => HG2.out.stay (HKX3.out W hq)
          clear hr1 hr2
          go_upto_region 17 with fail
          have hqc := Quiet0.refl wv
          go_region_held3 (fun W => (W.cell? ⟨B, 0, none⟩ = some (.int .i64 h.k) ∧ W.cell? ⟨B, 1, none⟩ = some (.string h.nm) ∧ W.cell? ⟨B, 2, none⟩ = some (.int .i64 h.n) ∧ W.cell? ⟨B, 3, none⟩ = some (.int .i64 h.tk) ∧ W.cell? ⟨B, 4, none⟩ = some (.int .i64 h.tn) ∧ W.cell? ⟨B, 5, none⟩ = some (.slice o1 l1 c1) ∧ W.cell? ⟨B, 6, none⟩ = some (.slice o2 l2 c2) ∧ W.cell? ⟨B, 7, none⟩ = some (.int .i64 h.fr) ∧ W.cell? ⟨B, 8, none⟩ = some (.int .i64 h.en)) ∧ (W.cell? ⟨ub, 0, none⟩ = some (.int .i64 gR.k) ∧ W.cell? ⟨ub, 1, none⟩ = some (.string gR.nm) ∧ W.cell? ⟨ub, 2, none⟩ = some (.int .i64 gR.n) ∧ W.cell? ⟨ub, 3, none⟩ = some (.int .i64 gR.tk) ∧ W.cell? ⟨ub, 4, none⟩ = some (.int .i64 gR.tn) ∧ W.cell? ⟨ub, 5, none⟩ = some (.slice q1 m1 d1) ∧ W.cell? ⟨ub, 6, none⟩ = some (.slice q2 m2 d2) ∧ W.cell? ⟨ub, 7, none⟩ = some (.int .i64 gR.fr) ∧ W.cell? ⟨ub, 8, none⟩ = some (.int .i64 gR.en)) ∧ W.cell? ⟨ub + 1, 0, none⟩ = some (.int .i64 0) ∧ W.cell? ⟨ub + 1, 1, none⟩ = some (.int .i64 0))
            (((refine HSX.out _ ?_); (repeat (first | with_reducible exact hqc | with_reducible exact Quiet0.refl _ | with_reducible refine Quiet0.trans ?_ (Quiet0.alloc _ _) | with_reducible refine Quiet0.trans ?_ (Quiet0.drew _) | fail))))
            (first
              | (go_at_call 23; (with_reducible refine Calls.mono (HRE.out _ (HKX.out _ ?hq)) ?_); (case hq => (repeat (first | with_reducible exact hqc | with_reducible exact Quiet0.refl _ | with_reducible refine Quiet0.trans ?_ (Quiet0.alloc _ _) | with_reducible refine Quiet0.trans ?_ (Quiet0.drew _) | fail))); rintro e wx ⟨r1, e1, r2, e2, rfl, hk1, hk2, hqx⟩; (refine with_q (w0 := wv) ?hq2 hqx ?_); (case hq2 => (repeat (first | with_reducible exact hqc | with_reducible exact Quiet0.refl _ | with_reducible refine Quiet0.trans ?_ (Quiet0.alloc _ _) | with_reducible refine Quiet0.trans ?_ (Quiet0.drew _) | fail))); intro hqc)
              | ((go_at_call 17; (with_reducible refine Calls.mono (HEQ.out _ _ _ _ _ _ _ _ _ _ _ (HGG1.out _ ?hqa) (HGG2.out _ ?hqb) (hk1.stay ?h1) (hk2.stay ?h2)) ?_)); (case hqa => (repeat (first | with_reducible exact hqc | with_reducible exact Quiet0.refl _ | with_reducible refine Quiet0.trans ?_ (Quiet0.alloc _ _) | with_reducible refine Quiet0.trans ?_ (Quiet0.drew _) | fail))); (case hqb => (repeat (first | with_reducible exact hqc | with_reducible exact Quiet0.refl _ | with_reducible refine Quiet0.trans ?_ (Quiet0.alloc _ _) | with_reducible refine Quiet0.trans ?_ (Quiet0.drew _) | fail))); (case h1 => (repeat (first | with_reducible exact Quiet0.refl _ | with_reducible refine Quiet0.trans ?_ (Quiet0.alloc _ _) | with_reducible refine Quiet0.trans ?_ (Quiet0.drew _) | fail))); (case h2 => (repeat (first | with_reducible exact Quiet0.refl _ | with_reducible refine Quiet0.trans ?_ (Quiet0.alloc _ _) | with_reducible refine Quiet0.trans ?_ (Quiet0.drew _) | fail))); rintro e w9 ⟨rfl, hqx⟩; (refine with_q (w0 := wv) ?hq2 hqx ?_); (case hq2 => (repeat (first | with_reducible exact hqc | with_reducible exact Quiet0.refl _ | with_reducible refine Quiet0.trans ?_ (Quiet0.alloc _ _) | with_reducible refine Quiet0.trans ?_ (Quiet0.drew _) | fail))); intro hqc)
              | (go_at_call 11; (with_reducible refine Calls.mono (HA.out _ (HKX.out _ ?hq)) ?_); (case hq => (repeat (first | with_reducible exact hqc | with_reducible exact Quiet0.refl _ | with_reducible refine Quiet0.trans ?_ (Quiet0.alloc _ _) | with_reducible refine Quiet0.trans ?_ (Quiet0.drew _) | fail))); rintro e wx ⟨rfl, hqx⟩; (refine with_q (w0 := wv) ?hq2 hqx ?_); (case hq2 => (repeat (first | with_reducible exact hqc | with_reducible exact Quiet0.refl _ | with_reducible refine Quiet0.trans ?_ (Quiet0.alloc _ _) | with_reducible refine Quiet0.trans ?_ (Quiet0.drew _) | fail))); intro hqc)
              | fail)
          all_goals
            go_wp2_with fail
            go_ret
            exact ⟨rfl, HQ0.out.trans (HKX.out _ hqc)⟩
        | cons y L' =>
          have hpos : (0 : Int) < (n : Int) := by have := HN.out; simp at this; omega
          have hpos' : (n : Int) > 0 := hpos
          obtain ⟨hr1, hr2⟩ := Prod.mk.inj HRVQ.out
          obtain ⟨hr3, hr4⟩ := Prod.mk.inj hr1
          obtain ⟨hr5, hr6⟩ := Prod.mk.inj hr2
          subst hr3 hr4 hr5 hr6
          obtain rfl : m1 = 0 := HG1.out.1
          obtain rfl : m2 = 0 := HG2.out.1
          obtain ⟨b9, off, u1, v1, e1, u2, v2, e2, rfl, hc9⟩ := HLX.out 0 y rfl
          rw [Nat.zero_mul, Nat.add_zero] at hc9
          have HSX : Hid (∀ W, Quiet0 wv W → (W.cell? ⟨ub, 0, none⟩ = some (.int .i64 zeroN.k) ∧ W.cell? ⟨ub, 1, none⟩ = some (.string zeroN.nm) ∧ W.cell? ⟨ub, 2, none⟩ = some (.int .i64 zeroN.n) ∧ W.cell? ⟨ub, 3, none⟩ = some (.int .i64 zeroN.tk) ∧ W.cell? ⟨ub, 4, none⟩ = some (.int .i64 zeroN.tn) ∧ W.cell? ⟨ub, 5, none⟩ = some (.slice q1 0 d1) ∧ W.cell? ⟨ub, 6, none⟩ = some (.slice q2 0 d2) ∧ W.cell? ⟨ub, 7, none⟩ = some (.int .i64 zeroN.fr) ∧ W.cell? ⟨ub, 8, none⟩ = some (.int .i64 zeroN.en)) ∧ W.cell? ⟨ub + 1, 0, none⟩ = some (.int .i64 y.fr) ∧ W.cell? ⟨ub + 1, 1, none⟩ = some (.int .i64 y.en) ∧ W.cell? ⟨b9, off + 7, none⟩ = some (.int .i64 y.fr) ∧ W.cell? ⟨b9, off + 8, none⟩ = some (.int .i64 y.en)) := fun W hq => ⟨(HU.out W (HKX3.out W hq)).1, (HU.out W (HKX3.out W hq)).2.1, (HU.out W (HKX3.out W hq)).2.2, (hc9.fr hq (fun h => h)).2.2.2.2.2.2.2.1, (hc9.fr hq (fun h => h)).2.2.2.2.2.2.2.2⟩
          clear hr1 hr2 hc9
          go_upto_region 16 with fail
          have hqc := Quiet0.refl wv
          go_region_held3 (fun W => (W.cell? ⟨ub, 0, none⟩ = some (.int .i64 zeroN.k) ∧ W.cell? ⟨ub, 1, none⟩ = some (.string zeroN.nm) ∧ W.cell? ⟨ub, 2, none⟩ = some (.int .i64 zeroN.n) ∧ W.cell? ⟨ub, 3, none⟩ = some (.int .i64 zeroN.tk) ∧ W.cell? ⟨ub, 4, none⟩ = some (.int .i64 zeroN.tn) ∧ W.cell? ⟨ub, 5, none⟩ = some (.slice q1 0 d1) ∧ W.cell? ⟨ub, 6, none⟩ = some (.slice q2 0 d2) ∧ W.cell? ⟨ub, 7, none⟩ = some (.int .i64 zeroN.fr) ∧ W.cell? ⟨ub, 8, none⟩ = some (.int .i64 zeroN.en)) ∧ W.cell? ⟨ub + 1, 0, none⟩ = some (.int .i64 y.fr) ∧ W.cell? ⟨ub + 1, 1, none⟩ = some (.int .i64 y.en) ∧ W.cell? ⟨b9, off + 7, none⟩ = some (.int .i64 y.fr) ∧ W.cell? ⟨b9, off + 8, none⟩ = some (.int .i64 y.en))
            (((refine HSX.out _ ?_); (repeat (first | with_reducible exact hqc | with_reducible exact Quiet0.refl _ | with_reducible refine Quiet0.trans ?_ (Quiet0.alloc _ _) | with_reducible refine Quiet0.trans ?_ (Quiet0.drew _) | fail))))
            (first
              | (go_at_call 17; (with_reducible refine Calls.mono (equal_zero _ _ _ _ _) ?_); rintro e wx ⟨rfl, hqx⟩; (refine with_q (w0 := wv) ?hq2 hqx ?_); (case hq2 => (repeat (first | with_reducible exact hqc | with_reducible exact Quiet0.refl _ | with_reducible refine Quiet0.trans ?_ (Quiet0.alloc _ _) | with_reducible refine Quiet0.trans ?_ (Quiet0.drew _) | fail))); intro hqc)
              | (go_at_call 11; (with_reducible refine Calls.mono (HA.out _ (HKX.out _ ?hq)) ?_); (case hq => (repeat (first | with_reducible exact hqc | with_reducible exact Quiet0.refl _ | with_reducible refine Quiet0.trans ?_ (Quiet0.alloc _ _) | with_reducible refine Quiet0.trans ?_ (Quiet0.drew _) | fail))); rintro e wx ⟨rfl, hqx⟩; (refine with_q (w0 := wv) ?hq2 hqx ?_); (case hq2 => (repeat (first | with_reducible exact hqc | with_reducible exact Quiet0.refl _ | with_reducible refine Quiet0.trans ?_ (Quiet0.alloc _ _) | with_reducible refine Quiet0.trans ?_ (Quiet0.drew _) | fail))); intro hqc)
              | fail)
          all_goals
            go_wp2_with fail
            go_ret
            exact ⟨rfl, HQ0.out.trans (HKX.out _ hqc)⟩
theorem scopeResolves_all (h : Nd) (ps : To) (w : World) (o1 : Option Addr) (l1 c1 : Nat) (o2 : Option Addr) (l2 c2 : Nat) (h1 : SlcIn (Low w) w o1 l1 h.tp) (h2 : TSlc (Low w) w o2 l2 ps) (ho : OkO h) (hop : allT OkO ps) (ht : Lx.Spaces w) :
    Calls Tryd.prog 4 #[tmv h o1 l1 c1 o2 l2 c2] w fun e w' => e = .returned (.bool true) ∧ Quiet0 w w' := by
  cases hg : greatTm h ps
  · cases hr : RT h ps
    · exact sr_wrong h ps w o1 l1 c1 o2 l2 c2 h1 h2 ho hop ht hg hr
    · exact sr_right h ps w o1 l1 c1 o2 l2 c2 h1 h2 ho hop ht hg hr
  · exact sr_great h ps w o1 l1 c1 o2 l2 c2 h1 h2 ho hop ht hg
end Sc
end Go.Proofs.YtnfodiedalhlhaaDoor
end
section
/-
  What the rows' condition on listed variables gives: strings.asciiSpace holds its table; a world that meets it (the door's own). No condition.
-/
namespace Go.Proofs.YtnfodiedalhlhaaDoor
open Go.ChangeShapes Go.WideShapes Go.ChangeAt Go.RowKit

def doorSteps : Nat := 48
def laidL : List (String × DataW Unit) := [("unicode.White_Space", Rows.laid_unicode_White_Space), ("strings.asciiSpace", Rows.laid_strings_asciiSpace)]
set_option maxRecDepth 100000 in
theorem ascii_data : (Rows.laid_strings_asciiSpace : DataW Unit) = Lib.tabData .u8 Lib.asciiSpaceTab := by rfl
set_option maxRecDepth 100000 in
theorem door_met (os : Os) (args : Array Value) : laidMetH Tryd.prog laidL ((World.doorLaid Tryd.prog doorSteps os).forCall (fun _ _ => 0) ⟨#[], args, []⟩).memory :=
  laidMetH_of_parts3 (fuel := 8) (laidMet_of_run' 8 (by kernel_rfl) (by kernel_rfl)) (by kernel_rfl) (by kernel_rfl)
set_option maxRecDepth 100000 in
theorem spaces_of_laid {W : World} (h : laidMetH Tryd.prog laidL W) : Lx.Spaces W := by
  rw [MakeChecks.laidMetH_plain _ _ _ (by kernel_rfl)] at h
  have h2 := laidMet.tail h
  rw [ascii_data] at h2
  exact Lib.tabIs_of_head (g := 0) (n := 256) (by kernel_rfl) (by kernel_rfl) (t := 128) (e := 5) Tryd.underlying128 Tryd.underlying5 (by kernel_rfl) (by kernel_rfl) h2
end Go.Proofs.YtnfodiedalhlhaaDoor
end
