/-
  Texts laid together (CnDblLaw): what each one proves, and its conditions, stands at its head.
-/
import Derived.Test.YtnfodiedalhlhaaDoorCD2
section
namespace Go.Proofs.YtnfodiedalhlhaaDoor
open Go.RowKit Go.Shelf
namespace Cn
theorem two_slc {R : Nat → Prop} {w : World} {b : Nat} {h1 h2 : Nd} {p1 p2 : To} {o1 : Option Addr} {l1 c1 : Nat} {o2 : Option Addr} {l2 c2 : Nat} {cs : Array Value} (hb : w.heap[b]? = some (.cells cs 30 (0, 0))) (hcs : cs = cells9 h1 none 0 0 o1 l1 c1 ++ cells9 h2 none 0 0 o2 l2 c2) (hR : R b)
    (t1 : h1.tp = .nil) (t2 : h2.tp = .nil) (s1 : TSlc R w o1 l1 p1) (s2 : TSlc R w o2 l2 p2) : TSlc R w (some ⟨b, 0, none⟩) 2 (.cons h1 p1 (.cons h2 p2 .nil)) := by
  subst hcs
  refine ⟨rfl, by decide, fun _ => ⟨b, 0, rfl, hR, ⟨none, 0, 0, o1, l1, c1, ?_, by rw [t1]; exact SlcIn.nil _ _ _, s1.1, s1.2.1, s1.2.2⟩, hR, ⟨none, 0, 0, o2, l2, c2, ?_, by rw [t2]; exact SlcIn.nil _ _ _, s2.1, s2.2.1, s2.2.2⟩, trivial⟩⟩
  · refine ⟨?_, ?_, ?_, ?_, ?_, ?_, ?_, ?_, ?_⟩ <;> (rw [cell_of_row _ _ _ _ _ (0, 0) hb]; rfl)
  · refine ⟨?_, ?_, ?_, ?_, ?_, ?_, ?_, ?_, ?_⟩ <;> (rw [cell_of_row _ _ _ _ _ (0, 0) hb]; rfl)
theorem dH_tp (i : Nat) : (dH i).tp = .nil := by cases i <;> rfl
structure DbW (B : Nat) (w : World) (g : Nd) (gs : To) (o2 : Option Addr) (l2 c2 : Nat) (wx : World) : Prop where
  b : wx.heap[B]? = some (.cells #[.int .i64 g.k, .string g.nm, .int .i64 g.n, .int .i64 g.tk, .int .i64 g.tn, .slice none 0 0, .slice o2 l2 c2, .int .i64 g.fr, .int .i64 g.en] 30 (0, 0))
  s : TSlc (fun b => B < b) wx o2 l2 gs
  q : Quiet0 w wx
theorem DbW.stay {B : Nat} {w : World} {g : Nd} {gs : To} {o2 : Option Addr} {l2 c2 : Nat} {wx wy : World} (h : DbW B w g gs o2 l2 c2 wx) (hq : Quiet0 wx wy) : DbW B w g gs o2 l2 c2 wy := ⟨blk_after hq h.b, h.s.stay hq, h.q.trans hq⟩
set_option maxRecDepth 100000 in
set_option maxHeartbeats 4000000 in
theorem countDoubles_all (d : Int) (hd0 : 0 ≤ d) (hd1 : d ≤ 255) (w : World) (ht : Lx.Spaces w) : Calls Tryd.prog 8 #[.int .u8 d] w fun e w' => e = .returned (.bool true) ∧ Quiet0 w w' := by
  have HA : Hid (∀ W, Quiet0 w W → Calls Tryd.prog 30 #[] W fun e w' => e = .returned (.bool true) ∧ Quiet0 W w') := fun W hq => awake18_any W (ht.stay hq)
  obtain ⟨k, hk⟩ : ∃ k : Nat, d % 60 = k := ⟨(d % 60).toNat, by omega⟩
  have hk60 : k < 60 := by omega
  have ew : IntKind.i64.wrap (d % 60) = k := by rw [hk]; exact IntWalk.i64_in _ (by omega)
  have HEQ : Hid (∀ (W : World) (o2 : Option Addr) (c2 : Nat) (B : Nat), TSlc (fun b => B < b) W o2 2 (fullP k) → Quiet0 w W → Calls Tryd.prog 29 #[.agg #[.int .i64 6, .string ⟨#[120]⟩, .int .i64 0, .int .i64 0, .int .i64 0, .slice none 0 0, .slice o2 2 c2, .int .i64 0, .int .i64 0]] W fun e w' => e = .returned (.tuple #[.int .i64 (min top ((lpD k 1 2).2 + 1 + (lpD k 1 2).1)), .int .i64 0]) ∧ Quiet0 W w') := fun W o2 c2 B hs hq => by
    have h := eqs_any letX (fullP k) W _ none 0 0 o2 2 c2 (SlcIn.nil _ _ _) hs (by have := full_size (k := k) (by omega); omega) (full_good k) (ht.stay hq)
    rw [full_eqs] at h; exact h
  obtain ⟨W0, hW0⟩ : ∃ W0, W0 = w.alloc (.cells #[.int .i64 1, .string ⟨#[120]⟩, .int .i64 0, .int .i64 0, .int .i64 0, .slice none 0 0, .slice none 0 0, .int .i64 0, .int .i64 0] 30) := ⟨_, rfl⟩
  have hq0 : Quiet0 w W0 := by rw [hW0]; exact Quiet0.alloc _ _
  have hb0 : W0.heap[w.heap.size]? = some (.cells #[.int .i64 1, .string ⟨#[120]⟩, .int .i64 0, .int .i64 0, .int .i64 0, .slice none 0 0, .slice none 0 0, .int .i64 0, .int .i64 0] 30 (0, 0)) := by rw [hW0]; exact heap_alloc_new w _
  have HD0 : Hid (DbW w.heap.size w (dH 0) (dP 0) none 0 0 W0) := ⟨hb0, TSlc.nil _ _ _, hq0⟩
  clear ht hq0 hb0
  go_enter Tryd.func8, Tryd.ntmps8
  go_upto_region 3 with fail
  change Code.wp _ _ _ _ (w.alloc (.cells #[.int .i64 1, .string ⟨#[120]⟩, .int .i64 0, .int .i64 0, .int .i64 0, .slice none 0 0, .slice none 0 0, .int .i64 0, .int .i64 0] 30))
  rw [← hW0]
  clear hW0
  generalize hB : w.heap.size = B at *
  have HBE := Lib.hid hB
  clear hB
  go_wp2_with fail
  go_loopw [5] (fun t wr => ∃ (i : Nat) (o2 : Option Addr) (l2 c2 : Nat), t = .int .i64 i ∧ i ≤ k ∧ DbW B w (dH i) (dP i) o2 l2 c2 wr) (fun t _ => k - (intOf t).toNat)
  case atStart => exact ⟨0, none, 0, 0, rfl, Nat.zero_le _, HD0.out⟩
  case round =>
    obtain ⟨i, o2, l2, c2, rfl, hi, hdw⟩ := hrel
    have HDW := Lib.hid hdw
    clear hdw HD0
    by_cases hlt : i < k
    · have hlt' : (i : Int) < k := by omega
      have htp := dH_tp i
      have HNX : Hid (dH (i + 1) = letX ∧ dP (i + 1) = .cons tupN twoP (.cons (dH i) (dP i) .nil)) := ⟨rfl, rfl⟩
      generalize dH i = g at *
      generalize dP i = gs at *
      have hb := HDW.out.b
      have hbl := lt_of_block hb
      obtain ⟨W1, hW1⟩ : ∃ W1, W1 = wr.alloc (.cells #[.int .i64 1, .string ⟨#[120]⟩, .int .i64 0, .int .i64 0, .int .i64 0, .slice none 0 0, .slice none 0 0, .int .i64 0, .int .i64 0, .int .i64 1, .string ⟨#[120]⟩, .int .i64 0, .int .i64 0, .int .i64 0, .slice none 0 0, .slice none 0 0, .int .i64 0, .int .i64 0] 30) := ⟨_, rfl⟩
      obtain ⟨W2, hW2⟩ : ∃ W2, W2 = W1.alloc (.cells #[.int .i64 9, .string ⟨#[]⟩, .int .i64 0, .int .i64 0, .int .i64 0, .slice none 0 0, .slice (some ⟨wr.heap.size, 0, none⟩) 2 2, .int .i64 0, .int .i64 0] 30) := ⟨_, rfl⟩
      have hq1 : Quiet0 wr W1 := by rw [hW1]; exact Quiet0.alloc _ _
      have hq2 : Quiet0 W1 W2 := by rw [hW2]; exact Quiet0.alloc _ _
      have hz1 : W1.heap.size = wr.heap.size + 1 := by rw [hW1]; simp
      have hz2 : W2.heap.size = wr.heap.size + 1 + 1 := by rw [hW2]; simp [hz1]
      have hb1 : W1.heap[wr.heap.size]? = some (.cells #[.int .i64 1, .string ⟨#[120]⟩, .int .i64 0, .int .i64 0, .int .i64 0, .slice none 0 0, .slice none 0 0, .int .i64 0, .int .i64 0, .int .i64 1, .string ⟨#[120]⟩, .int .i64 0, .int .i64 0, .int .i64 0, .slice none 0 0, .slice none 0 0, .int .i64 0, .int .i64 0] 30 (0, 0)) := by rw [hW1]; exact heap_alloc_new wr _
      have hb2 : W2.heap[wr.heap.size + 1]? = some (.cells #[.int .i64 9, .string ⟨#[]⟩, .int .i64 0, .int .i64 0, .int .i64 0, .slice none 0 0, .slice (some ⟨wr.heap.size, 0, none⟩) 2 2, .int .i64 0, .int .i64 0] 30 (0, 0)) := by rw [hW2, ← hz1]; exact heap_alloc_new W1 _
      have hs1 : TSlc (fun b => B < b) W1 (some ⟨wr.heap.size, 0, none⟩) 2 twoP := two_slc (h1 := vX) (h2 := vX) hb1 rfl hbl rfl rfl (TSlc.nil _ _ none) (TSlc.nil _ _ none) (c1 := 0) (c2 := 0)
      have HD2 := Lib.hid (HDW.out.stay (hq1.trans hq2))
      have HS2 := Lib.hid (hs1.stay hq2)
      go_upto_region 7 with fail
      change Code.wp _ _ _ _ ((wr.alloc (.cells #[.int .i64 1, .string ⟨#[120]⟩, .int .i64 0, .int .i64 0, .int .i64 0, .slice none 0 0, .slice none 0 0, .int .i64 0, .int .i64 0, .int .i64 1, .string ⟨#[120]⟩, .int .i64 0, .int .i64 0, .int .i64 0, .slice none 0 0, .slice none 0 0, .int .i64 0, .int .i64 0] 30)).alloc (.cells #[.int .i64 9, .string ⟨#[]⟩, .int .i64 0, .int .i64 0, .int .i64 0, .slice none 0 0, .slice (some ⟨wr.heap.size, 0, none⟩) 2 2, .int .i64 0, .int .i64 0] 30))
      rw [← hW1, ← hW2]
      have hb2' := HD2.out.b
      obtain ⟨W3, hW3⟩ : ∃ W3, W3 = W2.alloc (.cells #[.int .i64 9, .string ⟨#[]⟩, .int .i64 0, .int .i64 0, .int .i64 0, .slice none 0 0, .slice (some ⟨wr.heap.size, 0, none⟩) 2 2, .int .i64 0, .int .i64 0, .int .i64 g.k, .string g.nm, .int .i64 g.n, .int .i64 g.tk, .int .i64 g.tn, .slice none 0 0, .slice o2 l2 c2, .int .i64 g.fr, .int .i64 g.en] 30) := ⟨_, rfl⟩
      have hq3 : Quiet0 W2 W3 := by rw [hW3]; exact Quiet0.alloc _ _
      have hb3 : W3.heap[wr.heap.size + 1 + 1]? = some (.cells #[.int .i64 9, .string ⟨#[]⟩, .int .i64 0, .int .i64 0, .int .i64 0, .slice none 0 0, .slice (some ⟨wr.heap.size, 0, none⟩) 2 2, .int .i64 0, .int .i64 0, .int .i64 g.k, .string g.nm, .int .i64 g.n, .int .i64 g.tk, .int .i64 g.tn, .slice none 0 0, .slice o2 l2 c2, .int .i64 g.fr, .int .i64 g.en] 30 (0, 0)) := by rw [hW3, ← hz2]; exact heap_alloc_new W2 _
      have HD3 := Lib.hid (HD2.out.stay hq3)
      have HS3 : Hid (TSlc (fun b => B < b) W3 (some ⟨wr.heap.size + 1 + 1, 0, none⟩) 2 (.cons tupN twoP (.cons g gs .nil))) := two_slc (h1 := tupN) (h2 := g) (c1 := 2) (c2 := c2) hb3 rfl (by omega) rfl htp (HS2.out.stay hq3) HD3.out.s
      have hb4 := HD3.out.b
      rw [hW3] at hb4
      obtain ⟨⟨t0, t1, t2, t3, t4, t5, t6, t7, t8⟩, u0, u1, u2, u3, u4, u5, u6, u7, u8⟩ := block9 hb4
      rw [← hW3] at hb4
      have hf5 := put9_fr W3 B (.int .i64 6) (.string ⟨#[120]⟩) (.int .i64 0) (.int .i64 0) (.int .i64 0) (.slice none 0 0) (.slice (some ⟨wr.heap.size + 1 + 1, 0, none⟩) 2 2) (.int .i64 0) (.int .i64 0)
      have hb5 := put9_block (a0 := .int .i64 6) (a1 := .string ⟨#[120]⟩) (a2 := .int .i64 0) (a3 := .int .i64 0) (a4 := .int .i64 0) (a5 := .slice none 0 0) (a6 := .slice (some ⟨wr.heap.size + 1 + 1, 0, none⟩) 2 2) (a7 := .int .i64 0) (a8 := .int .i64 0) hb4
      have HD5 : Hid (DbW B w letX (.cons tupN twoP (.cons g gs .nil)) (some ⟨wr.heap.size + 1 + 1, 0, none⟩) 2 2 (put9 W3 B (.int .i64 6) (.string ⟨#[120]⟩) (.int .i64 0) (.int .i64 0) (.int .i64 0) (.slice none 0 0) (.slice (some ⟨wr.heap.size + 1 + 1, 0, none⟩) 2 2) (.int .i64 0) (.int .i64 0))) :=
        ⟨hb5, HS3.out.fr hf5 (fun b _ k => ⟨k, by omega⟩), HD3.out.q.trans' hf5 (fun b hb e => by have := HBE.out; omega)⟩
      obtain ⟨⟨q0, q1, q2, q3, q4, q5, q6, q7, q8⟩, _⟩ := block9 hb2
      obtain ⟨⟨r0, r1, r2, r3, r4, r5, r6, r7, r8⟩, _⟩ := block9 hb2'
      have HW3 := Lib.hid hW3
      clear hW1 hW2 hW3 hq1 hq2 hq3 hb hb1 hb2 hb2' hb3 hb4 hs1 hf5 hb5 htp
      have hzz : W2.heap.size = wr.heap.size + 1 + 1 := hz2
      go_upto_region 5 with fail
      change Code.wp _ _ _ _ (put9 (W2.alloc (.cells #[.int .i64 9, .string ⟨#[]⟩, .int .i64 0, .int .i64 0, .int .i64 0, .slice none 0 0, .slice (some ⟨wr.heap.size, 0, none⟩) 2 2, .int .i64 0, .int .i64 0, .int .i64 g.k, .string g.nm, .int .i64 g.n, .int .i64 g.tk, .int .i64 g.tn, .slice none 0 0, .slice o2 l2 c2, .int .i64 g.fr, .int .i64 g.en] 30)) B (.int .i64 6) (.string ⟨#[120]⟩) (.int .i64 0) (.int .i64 0) (.int .i64 0) (.slice none 0 0) (.slice (some ⟨wr.heap.size + 1 + 1, 0, none⟩) 2 2) (.int .i64 0) (.int .i64 0))
      rw [← HW3.out]
      clear t0 t1 t2 t3 t4 t5 t6 t7 t8 u0 u1 u2 u3 u4 u5 u6 u7 u8 q0 q1 q2 q3 q4 q5 q6 q7 q8 r0 r1 r2 r3 r4 r5 r6 r7 r8
      generalize put9 W3 B (.int .i64 6) (.string ⟨#[120]⟩) (.int .i64 0) (.int .i64 0) (.int .i64 0) (.slice none 0 0) (.slice (some ⟨wr.heap.size + 1 + 1, 0, none⟩) 2 2) (.int .i64 0) (.int .i64 0) = W5 at *
      go_wp2_with fail
      go_roundw
      case rel => exact ⟨i + 1, _, 2, 2, by go_num, hlt, by rw [HNX.out.1, HNX.out.2]; exact HD5.out⟩
      case measure => simp [intOf]; omega
    · have hlt' : ¬ (i : Int) < k := by omega
      obtain rfl : i = k := by omega
      have htp := dH_tp i
      have HFP : Hid (fullP i = .cons one1 .nil (.cons (dH i) (dP i) .nil)) := rfl
      generalize dH i = g at *
      generalize dP i = gs at *
      have hb := HDW.out.b
      have hbl := lt_of_block hb
      obtain ⟨X, hX⟩ : ∃ X, X = put9 wr B (.int .i64 6) (.string ⟨#[120]⟩) (.int .i64 0) (.int .i64 0) (.int .i64 0) (.slice none 0 0) (.slice (some ⟨wr.heap.size, 0, none⟩) 2 2) (.int .i64 0) (.int .i64 0) := ⟨_, rfl⟩
      have hzX : X.heap.size = wr.heap.size := by rw [hX]; simp [put9, World.setCell]
      have hfX : Fr (fun k => k = B) wr X := by rw [hX]; exact put9_fr _ _ _ _ _ _ _ _ _ _ _
      have hbX : X.heap[B]? = some (.cells #[.int .i64 6, .string ⟨#[120]⟩, .int .i64 0, .int .i64 0, .int .i64 0, .slice none 0 0, .slice (some ⟨wr.heap.size, 0, none⟩) 2 2, .int .i64 0, .int .i64 0] 30 (0, 0)) := by rw [hX]; exact put9_block hb
      obtain ⟨W5, hW5⟩ : ∃ W5, W5 = X.alloc (.cells #[.int .i64 2, .string ⟨#[]⟩, .int .i64 1, .int .i64 0, .int .i64 0, .slice none 0 0, .slice none 0 0, .int .i64 0, .int .i64 0, .int .i64 g.k, .string g.nm, .int .i64 g.n, .int .i64 g.tk, .int .i64 g.tn, .slice none 0 0, .slice o2 l2 c2, .int .i64 g.fr, .int .i64 g.en] 30) := ⟨_, rfl⟩
      have hq5 : Quiet0 X W5 := by rw [hW5]; exact Quiet0.alloc _ _
      have hb5 : W5.heap[wr.heap.size]? = some (.cells #[.int .i64 2, .string ⟨#[]⟩, .int .i64 1, .int .i64 0, .int .i64 0, .slice none 0 0, .slice none 0 0, .int .i64 0, .int .i64 0, .int .i64 g.k, .string g.nm, .int .i64 g.n, .int .i64 g.tk, .int .i64 g.tn, .slice none 0 0, .slice o2 l2 c2, .int .i64 g.fr, .int .i64 g.en] 30 (0, 0)) := by rw [hW5, ← hzX]; exact heap_alloc_new X _
      have HD5 : Hid (DbW B w letX (.cons one1 .nil (.cons g gs .nil)) (some ⟨wr.heap.size, 0, none⟩) 2 2 W5) :=
        ⟨blk_after hq5 hbX, two_slc (h1 := one1) (h2 := g) (c1 := 0) (c2 := c2) hb5 rfl hbl rfl htp (TSlc.nil _ _ none) ((HDW.out.s.fr hfX (T := fun b => B < b) (fun b _ k => ⟨k, by omega⟩)).stay hq5), (HDW.out.q.trans' hfX (fun b hb e => by have := HBE.out; omega)).trans hq5⟩
      obtain ⟨⟨t0, t1, t2, t3, t4, t5, t6, t7, t8⟩, u0, u1, u2, u3, u4, u5, u6, u7, u8⟩ := block9 hb
      have HW5 := Lib.hid hW5
      have HX := Lib.hid hX
      clear hW5 hX hq5 hb hb5 hfX hbX htp hzX
      go_upto_region 9 with fail
      change Code.wp _ _ _ _ ((put9 wr B (.int .i64 6) (.string ⟨#[120]⟩) (.int .i64 0) (.int .i64 0) (.int .i64 0) (.slice none 0 0) (.slice (some ⟨wr.heap.size, 0, none⟩) 2 2) (.int .i64 0) (.int .i64 0)).alloc (.cells #[.int .i64 2, .string ⟨#[]⟩, .int .i64 1, .int .i64 0, .int .i64 0, .slice none 0 0, .slice none 0 0, .int .i64 0, .int .i64 0, .int .i64 g.k, .string g.nm, .int .i64 g.n, .int .i64 g.tk, .int .i64 g.tn, .slice none 0 0, .slice o2 l2 c2, .int .i64 g.fr, .int .i64 g.en] 30))
      rw [← HX.out, ← HW5.out]
      clear t0 t1 t2 t3 t4 t5 t6 t7 t8 u0 u1 u2 u3 u4 u5 u6 u7 u8
      generalize wr.heap.size = ab at *
      rw [← HFP.out] at HD5
      obtain ⟨fin, hfin⟩ : ∃ fin, lpD i 1 2 = fin := ⟨_, rfl⟩
      rw [hfin] at HEQ
      have HFIN := Lib.hid hfin
      clear hfin
      go_wp2_with fail
      go_loopw [7, 8, 9] (fun a b t wx => ∃ (j : Nat) (v s : Int), t = .int .i64 j ∧ a = .int .i64 v ∧ b = .int .i64 s ∧ j ≤ i ∧ InT v ∧ InT s ∧ lpD (i - j) v s = fin ∧ wx = W5) (fun _ _ t _ => i - (intOf t).toNat)
      case atStart => exact ⟨0, 1, 2, rfl, rfl, rfl, Nat.zero_le _, in1, ⟨by decide, by decide⟩, by rw [Nat.sub_zero]; exact HFIN.out, rfl⟩
      case round =>
        obtain ⟨j, v, s, rfl, rfl, rfl, hj, hv, hs, hl, rfl⟩ := hrel
        have HL := Lib.hid hl
        have HV := Lib.hid hv
        have HS := Lib.hid hs
        have hv1 := hv.1
        have hv2 : v ≤ 1099511627776 := hv.2
        have hs1 := hs.1
        have hs2 : s ≤ 1099511627776 := hs.2
        have e1 : IntKind.i64.wrap (2 * v) = 2 * v := IntWalk.i64_in _ (by omega)
        have e2 : IntKind.i64.wrap (3 + 2 * v) = 3 + 2 * v := IntWalk.i64_in _ (by omega)
        have e3 : IntKind.i64.wrap (s + 1) = s + 1 := IntWalk.i64_in _ (by omega)
        clear hl hv hs
        by_cases hlt2 : j < i
        · have hlt2' : (j : Int) < i := by omega
          obtain ⟨v', hv'⟩ : ∃ v', min top (3 + 2 * v) = v' := ⟨_, rfl⟩
          obtain ⟨s', hs'⟩ : ∃ s', min top (s + 1 + v') = s' := ⟨_, rfl⟩
          have HV' := Lib.hid hv'
          have HS' := Lib.hid hs'
          have HVI : Hid (InT v') := by show InT v'; rw [← hv']; unfold InT top; omega
          have HSI : Hid (InT s') := by show InT s'; rw [← hs']; have := HVI.out; unfold InT top at *; omega
          have HN : Hid (lpD (i - (j + 1)) v' s' = fin) := by
            show _ = _
            rw [← HL.out, show i - j = (i - (j + 1)) + 1 by omega, ← hs', ← hv']; rfl
          have hv'' : min (1099511627776 : Int) (3 + 2 * v) = v' := hv'
          have hvr := HVI.out
          have hvr1 := hvr.1
          have hvr2 : v' ≤ 1099511627776 := hvr.2
          have e4 : IntKind.i64.wrap (s + 1 + v') = s + 1 + v' := IntWalk.i64_in _ (by omega)
          have hs'' : min (1099511627776 : Int) (s + 1 + v') = s' := hs'
          clear hv' hs' hvr
          go_wp2_with fail
          go_roundw
          case rel => exact ⟨j + 1, v', s', by go_num, by first | rfl | rw [HV'.out], by first | rfl | rw [HS'.out] | rw [← HS'.out, ← HV'.out], by omega, HVI.out, HSI.out, HN.out, trivial⟩
          case measure => simp [intOf]; omega
        · have hlt2' : ¬ (j : Int) < i := by omega
          have HFV : Hid (fin = (v, s)) := by show _ = _; rw [← HL.out, show i - j = 0 by omega]; rfl
          obtain ⟨s', hs'⟩ : ∃ s', min top (s + 1 + v) = s' := ⟨_, rfl⟩
          have e4 : IntKind.i64.wrap (s + 1 + v) = s + 1 + v := IntWalk.i64_in _ (by omega)
          have hs'' : min (1099511627776 : Int) (s + 1 + v) = s' := hs'
          have HE2 := Lib.hid (HEQ.out wr (some ⟨ab, 0, none⟩) 2 B HD5.out.s HD5.out.q)
          rw [HFV.out, hs'] at HE2
          have hb6 := HD5.out.b
          obtain ⟨⟨r0, r1, r2, r3, r4, r5, r6, r7, r8⟩, _⟩ := block9 hb6
          clear hb6 hs' HEQ HFIN
          go_wp2_with fail
          refine HE2.out.mono ?_; rintro e w6 ⟨rfl, hq6⟩
          have HQ6 := Lib.hid (HD5.out.q.trans hq6)
          have hss : (s' == s') = true := by simp
          clear hq6
          go_wp2_with fail
          refine (HA.out _ HQ6.out).mono ?_; rintro e w7 ⟨rfl, hq7⟩
          have HQ7 := Lib.hid (HQ6.out.trans hq7)
          clear hq7
          go_wp2_with fail
          go_ret
          exact ⟨rfl, HQ7.out⟩
end Cn
end Go.Proofs.YtnfodiedalhlhaaDoor
end
