/-
  Texts laid together (PaAny, CnAwake, ScRAlk): laws and walks, with their conditions in their statements.
-/
import Derived.Test.YtnfodiedalhlhaaDoorNA18
import Derived.Test.YtnfodiedalhlhaaDoorNA19
import Derived.Test.YtnfodiedalhlhaaDoorNA20
section
namespace Go.Proofs.YtnfodiedalhlhaaDoor.Pa
open Go.RowKit Lx
theorem exQ_word {ts : List Tok} {f i : Nat} (h : wordQ ts i = true) : exQ ts (f + 1) i = formQ (exQ ts f) ts i := by
  conv => lhs; unfold exQ
  unfold wordQ at h
  rw [if_pos h]
theorem exQ_atoms {ts : List Tok} {f i : Nat} (h : wordQ ts i = false) : exQ ts (f + 1) i = goQ (exQ ts f) (tyQ ts (f - 1)) ts (atomQ (exQ ts f) (tyQ ts (f - 1)) ts i) := by
  conv => lhs; unfold exQ
  unfold wordQ at h
  rw [if_neg (by rw [h]; simp)]
theorem wordQ_lt {ts : List Tok} {i : Nat} (hs : Shut ts) (h : wordQ ts i = true) : i + 1 < ts.length := by
  unfold wordQ at h
  rw [Bool.or_eq_true, Bool.or_eq_true] at h
  rcases h with (h | h) | h
  · exact isT_lt hs h (by decide)
  · exact isT_lt hs h (by decide)
  · exact isT_lt hs h (by decide)
theorem atom_any2 (ts : List Tok) (g c : Nat) (E : Nat → TmR) (T : Nat → TyR) (i : Nat) (ai lv mo : Int) (w : World) (ea : ai = i) (ht : TkAt w g ts) (htl : ∀ t ∈ ts, t.text.length ≤ 1000000)
    (hbr : isT ts i 4 sOpen = true → ∀ W, Quiet0 w W → Calls Tryd.prog 115 #[tks g ts c, .int .i64 i, .int .i64 lv, .int .i64 mo] W (TmPost W (brQ E T ts i (E (i + 1))))) :
    Calls Tryd.prog 97 #[tks g ts c, .int .i64 ai, .int .i64 lv, .int .i64 mo] w (TmPost w (atomQ E T ts i)) := by
  subst ea
  cases hb : begQ ts i
  · exact atom_none ts g c E T i lv mo w hb ht
  · obtain ⟨t, hti⟩ : ∃ t, ts[i]? = some t := by
      unfold begQ at hb
      split at hb
      · next t ht => exact ⟨t, ht⟩
      · cases hb
    cases hk1 : (t.kind == 1)
    · cases hk2 : (t.kind == 2)
      · cases hx : (t.text == wTrue)
        · cases hy : (t.text == sOpen)
          · exact atom_other ts g c E T i lv mo w hb ht t hti hk1 hk2 hx hy
          · refine atom_open ts g c E T i lv mo w hb ht t hti hk1 hk2 hx hy (hbr ?_)
            have h1 := beg_at hti
            rw [hb, hk1, hk2, isT_at hti, isT_at hti, isT_at hti, hx] at h1
            rw [isT_at hti, hy, Bool.and_true]
            have h2 : (t.text == wFalse) = false := by
              have := eq_of_beq hy
              rw [this]; rfl
            rw [h2] at h1
            simpa [hy] using h1.symm
        · exact atom_true ts g c E T i lv mo w hb ht t hti hk1 hk2 hx
      · exact atom_num ts g c E T i lv mo w hb ht t hti hk1 hk2 (htl t (List.mem_of_getElem? hti))
    · exact atom_name ts g c E T i lv mo w hb ht t hti hk1
theorem expr_any (ts : List Tok) (g c : Nat) (hsh : Shut ts) (htl : ∀ t ∈ ts, t.text.length ≤ 1000000) : ∀ f, ExT ts g c f
  | 0 => expr_zero ts g c
  | f + 1 => by
    have ih := expr_any ts g c hsh htl f
    intro i ai lv mo W ea hi ht hf h1 h2 h3 h4
    subst ea
    have hle : lv ≤ mo := by omega
    have hf2 : f = (mo + 1 - (lv + 1)).toNat := by omega
    have hf3 : f - 1 = (mo + 1 - (lv + 2)).toNat := by omega
    have hE : ∀ (j : Nat) (aj : Int) (W' : World), aj = j → j < ts.length → Quiet0 W W' → Calls Tryd.prog 68 #[tks g ts c, .int .i64 aj, .int .i64 (lv + 1), .int .i64 mo] W' (TmPost W' (exQ ts f j)) := fun j aj W' e hj hq => ih j aj (lv + 1) mo W' e hj (ht.stay hq) hf2 (by omega) (by omega) h3 h4
    have hT : ∀ (j : Nat) (aj : Int) (W' : World), aj = j → j < ts.length → Quiet0 W W' → Calls Tryd.prog 123 #[tks g ts c, .int .i64 aj, .int .i64 (lv + 2), .int .i64 mo] W' (TyPost W' (tyQ ts (f - 1) j)) := fun j aj W' e hj hq => read_any ts g c hsh (f - 1) j aj (lv + 2) mo W' e hj (ht.stay hq) hf3 (by omega) (by omega) h3 (by omega)
    cases hw : wordQ ts i
    · rw [exQ_atoms hw]
      refine expr_atoms ts g c (exQ ts f) (tyQ ts (f - 1)) i lv mo W hi (fun j hj => atomQ_in hsh (exQ_in hsh f) (tyQ_in hsh (f - 1)) j hj) hsh ht hle hw (fun j aj W' ea hq => ?_)
      refine atom_any2 ts g c (exQ ts f) (tyQ ts (f - 1)) j aj lv mo W' ea (ht.stay hq) htl (fun ho W'' hq' => ?_)
      exact brackets_any ts g c (exQ ts f) (tyQ ts (f - 1)) j lv mo W'' hsh ho (exQ_in hsh f) (tyQ_in hsh (f - 1)) (ht.stay (hq.trans hq')) h1 (by omega) (fun j' aj' W3 e hj hq3 => hE j' aj' W3 e hj ((hq.trans hq').trans hq3)) (fun j' aj' W3 e hj hq3 => hT j' aj' W3 e hj ((hq.trans hq').trans hq3))
    · rw [exQ_word hw]
      exact expr_form ts g c f (exQ ts f) i lv mo W ht hle hw (fun W' hq => form_any ts g c (exQ ts f) i lv mo W' hsh (wordQ_lt hsh hw) (exQ_in hsh f) (ht.stay hq) h1 (by omega) (fun j aj W2 e hj hq2 => hE j aj W2 e hj (hq.trans hq2)))
def WhPost (w : World) (r : TmR) (e : Ending) (w' : World) : Prop := match r with
  | .inl ((h, ps), _, j) => ∃ o1 l1 c1 o2 l2 c2, e = .returned (.tuple #[tmv h o1 l1 c1 o2 l2 c2, .int .i64 (j : Nat), .int .i64 0]) ∧ SlcIn (fun b => w.heap.size ≤ b) w' o1 l1 h.tp ∧ TSlc (fun b => w.heap.size ≤ b) w' o2 l2 ps ∧ Quiet0 w w'
  | .inr (j, er) => e = .returned (.tuple #[.agg zero9, .int .i64 (j : Nat), .int .i64 (er : Nat)]) ∧ Quiet0 w w'
set_option maxRecDepth 100000 in
set_option maxHeartbeats 4000000 in
theorem whole_any (ts : List Tok) (g c : Nat) (f : Nat) (mo : Int) (w : World) (hsh : Shut ts) (h0 : 0 < ts.length) (htl : ∀ t ∈ ts, t.text.length ≤ 1000000) (ht : TkAt w g ts) (hf : f = mo.toNat) (hm1 : -1000000 ≤ mo) (hm2 : mo ≤ 800000) :
    Calls Tryd.prog 37 #[tks g ts c, .int .i64 mo] w (WhPost w (wholeQ ts f)) := by
  have hfew := ht.few
  obtain ⟨W0, hW0⟩ : ∃ W0, W0 = w.alloc (.cells zero9 30) := ⟨_, rfl⟩
  have HQ0 : Hid (Quiet0 w W0) := by rw [hW0]; exact Quiet0.alloc _ _
  have HB0 : Hid (W0.heap[w.heap.size]? = some (.cells zero9 30 (0, 0))) := by show _ = _; rw [hW0]; exact heap_alloc_new w _
  have HC : Hid (Calls Tryd.prog 68 #[tks g ts c, .int .i64 0, .int .i64 1, .int .i64 mo] W0 (TmPost W0 (exQ ts f 0))) := expr_any ts g c hsh htl f 0 0 1 mo W0 rfl h0 (ht.stay HQ0.out) (by omega) (by omega) (by omega) hm1 hm2
  have HIN := exQ_in hsh f 0 h0
  have HCE : Hid (∀ (j : Nat) (t : Tok), ts[j]? = some t → ∀ W, Quiet0 w W → W.cell? ⟨g, j * 4, none⟩ = some (.int .i64 (t.kind : Nat))) := fun j t h W hq => ((ht.stay hq).cells j t h).1
  obtain ⟨res, hres⟩ : ∃ res, wholeQ ts f = res := ⟨_, rfl⟩
  have HRES := Lib.hid hres
  rw [hres]
  clear ht hsh htl hres hf
  go_enter Tryd.func37, Tryd.ntmps37
  go_wp2_with fail
  rw [← hW0]
  clear hW0
  generalize hB : w.heap.size = B at *
  have HBE := Lib.hid hB
  clear hB
  cases hr : exQ ts f 0 with
  | inr y =>
    obtain ⟨j, er⟩ := y
    rw [hr] at HC HIN
    have hne : er ≠ 0 := HIN.2
    have hne2 : ((er : Int) == 0) = false := by simp [hne]
    have hne3 : ((er : Int) != 0) = true := by simp [hne]
    have HFE : Hid (res = .inr (j, er)) := by show _ = _; rw [← HRES.out]; unfold wholeQ; rw [hr]
    refine HC.out.mono ?_; rintro e w2 ⟨rfl, hq2⟩
    obtain ⟨W3, hW3⟩ : ∃ W3, W3 = w2.alloc (.cells (z13 (j : Nat) (er : Nat)) 92) := ⟨_, rfl⟩
    have hqa : Quiet0 w2 W3 := by rw [hW3]; exact Quiet0.alloc _ _
    have hr3 : W3.heap[w2.heap.size]? = some (.cells (z13 (j : Nat) (er : Nat)) 92 (0, 0)) := by rw [hW3]; exact heap_alloc_new w2 _
    have hb3 := blk_fr (hq2.trans hqa) (fun h => h) HB0.out
    have HB3 := Lib.hid hb3
    have HQ3 := Lib.hid (HQ0.out.trans (hq2.trans hqa))
    have hw2 : B < w2.heap.size := Nat.lt_of_lt_of_le (lt_of_block HB0.out) hq2.size
    go_upto_region 2 with fail
    change Code.wp _ _ _ _ (w2.alloc (.cells (z13 (j : Nat) (er : Nat)) 92))
    rw [← hW3]
    clear hW3 hqa hq2 HIN
    generalize w2.heap.size = rb at *
    have hn1 : ¬ B = rb := by omega
    have hn2 : ¬ rb = B := by omega
    obtain ⟨r0, r1, r2, r3, r4, r5, r6, r7, r8, r9, r10, r11, r12⟩ := cells13 hr3
    obtain ⟨⟨t0, t1, t2, t3, t4, t5, t6, t7, t8⟩, u0, u1, u2, u3, u4, u5, u6, u7, u8⟩ := block9 hb3
    clear hr3 hb3
    go_upto_region 5 with fail
    go_region
    have hf := (put9_fr W3 B (.int .i64 0) (.string ⟨#[]⟩) (.int .i64 0) (.int .i64 0) (.int .i64 0) (.slice none 0 0) (.slice none 0 0) (.int .i64 0) (.int .i64 0)).trans (Fr.drew (fun k => k = B) _)
    have hb9 := blk_after (Quiet0.drew _) (put9_block (a0 := .int .i64 0) (a1 := .string ⟨#[]⟩) (a2 := .int .i64 0) (a3 := .int .i64 0) (a4 := .int .i64 0) (a5 := .slice none 0 0) (a6 := .slice none 0 0) (a7 := .int .i64 0) (a8 := .int .i64 0) HB3.out)
    first
      | with_reducible change Exit.then _ _ _ _ (put9 W3 B (.int .i64 0) (.string ⟨#[]⟩) (.int .i64 0) (.int .i64 0) (.int .i64 0) (.slice none 0 0) (.slice none 0 0) (.int .i64 0) (.int .i64 0)).drew
      | change Exit.then _ _ _ _ (put9 W3 B (.int .i64 0) (.string ⟨#[]⟩) (.int .i64 0) (.int .i64 0) (.int .i64 0) (.slice none 0 0) (.slice none 0 0) (.int .i64 0) (.int .i64 0)).drew
    generalize (put9 W3 B (.int .i64 0) (.string ⟨#[]⟩) (.int .i64 0) (.int .i64 0) (.int .i64 0) (.slice none 0 0) (.slice none 0 0) (.int .i64 0) (.int .i64 0)).drew = wf at *
    obtain ⟨⟨x0, x1, x2, x3, x4, x5, x6, x7, x8⟩, _⟩ := block9 hb9
    clear hb9
    go_wp2_with fail
    have hqf : Quiet0 w wf := (HQ3.out).trans' hf (fun k hk e => by have := HBE.out; omega)
    refine bodyPost_ret (by simp [results, Tryd.results37, go_sem, x0, x1, x2, x3, x4, x5, x6, x7, x8]; rfl) rfl ?_
    rw [HFE.out]
    exact ⟨rfl, hqf⟩
  | inl y =>
    obtain ⟨⟨h, ps⟩, x, j⟩ := y
    rw [hr] at HC HIN
    have hj2 : 0 < j ∧ j < ts.length := HIN
    obtain ⟨t9, ht9⟩ : ∃ t9, ts[j]? = some t9 := ⟨_, List.getElem?_eq_getElem hj2.2⟩
    have HEQ : Hid (endQ ts j = (t9.kind == 0)) := by show _ = _; unfold endQ; rw [ht9]
    have HT9 := Lib.hid ht9
    have hjl : (j : Int) < ts.length := by omega
    have hjl2 : ¬ (j : Int) ≥ ts.length := by omega
    have hjl3 : ¬ (ts.length : Int) ≤ j := by omega
    have hj0 : (0 : Int) ≤ j := by omega
    have hkn := kind_eq t9.kind 0
    refine HC.out.mono ?_; rintro e w2 ⟨o1, l1, c1, o2, l2, c2, rfl, hs1, hs2, hq2⟩
    obtain ⟨W3, hW3⟩ : ∃ W3, W3 = w2.alloc (.cells (c13 h o1 l1 c1 o2 l2 c2 x (j : Nat) 0) 92) := ⟨_, rfl⟩
    have hqa : Quiet0 w2 W3 := by rw [hW3]; exact Quiet0.alloc _ _
    have hr3 : W3.heap[w2.heap.size]? = some (.cells (c13 h o1 l1 c1 o2 l2 c2 x (j : Nat) 0) 92 (0, 0)) := by rw [hW3]; exact heap_alloc_new w2 _
    have hb3 := blk_fr (hq2.trans hqa) (fun h => h) HB0.out
    have HB3 := Lib.hid hb3
    have HQ3 := Lib.hid (HQ0.out.trans (hq2.trans hqa))
    have hw2 : B < w2.heap.size := Nat.lt_of_lt_of_le (lt_of_block HB0.out) hq2.size
    have HS1 := Lib.hid (hs1.stay hqa)
    have HS2 := Lib.hid (hs2.stay hqa)
    have hw0 := lt_of_block HB0.out
    have k0 := HCE.out j t9 ht9 W3 HQ3.out
    go_upto_region 2 with fail
    change Code.wp _ _ _ _ (w2.alloc (.cells (c13 h o1 l1 c1 o2 l2 c2 x (j : Nat) 0) 92))
    rw [← hW3]
    clear hW3 hqa hq2 HIN hs1 hs2 ht9
    generalize w2.heap.size = rb at *
    have hn1 : ¬ B = rb := by omega
    have hn2 : ¬ rb = B := by omega
    have HR3 := Lib.hid hr3
    obtain ⟨r0, r1, r2, r3, r4, r5, r6, r7, r8, r9, r10, r11, r12⟩ := cells13 hr3
    have v0 := free13 hr3 0
    have v1 := free13 hr3 1
    have v2 := free13 hr3 2
    have v3 := free13 hr3 3
    have v4 := free13 hr3 4
    have v5 := free13 hr3 5
    have v6 := free13 hr3 6
    have v7 := free13 hr3 7
    have v8 := free13 hr3 8
    have v9 := free13 hr3 9
    have v10 := free13 hr3 10
    have v11 := free13 hr3 11
    have v12 := free13 hr3 12
    obtain ⟨⟨t0, t1, t2, t3, t4, t5, t6, t7, t8⟩, u0, u1, u2, u3, u4, u5, u6, u7, u8⟩ := block9 hb3
    clear hr3 hb3
    cases hke : (t9.kind == 0)
    case true =>
      have hk1 : ((t9.kind : Int) != 0) = false := by rw [bne, show ((t9.kind : Int) == 0) = true from hkn.trans hke]; rfl
      have HFE : Hid (res = .inl ((h, ps), x, j + 1)) := by show _ = _; rw [← HRES.out]; unfold wholeQ; rw [hr]; show (if endQ ts j = true then _ else _) = _; rw [if_pos (by rw [HEQ.out, hke])]
      clear hkn hke
      go_upto_region 6 with fail
      go_region
      have hf := (put9_fr W3 B (.int .i64 h.k) (.string h.nm) (.int .i64 h.n) (.int .i64 h.tk) (.int .i64 h.tn) (.slice o1 l1 c1) (.slice o2 l2 c2) (.int .i64 h.fr) (.int .i64 h.en)).trans (Fr.drew (fun k => k = B) _)
      have hb9 := blk_after (Quiet0.drew _) (put9_block (a0 := .int .i64 h.k) (a1 := .string h.nm) (a2 := .int .i64 h.n) (a3 := .int .i64 h.tk) (a4 := .int .i64 h.tn) (a5 := .slice o1 l1 c1) (a6 := .slice o2 l2 c2) (a7 := .int .i64 h.fr) (a8 := .int .i64 h.en) HB3.out)
      first
        | with_reducible change Exit.then _ _ _ _ (put9 W3 B (.int .i64 h.k) (.string h.nm) (.int .i64 h.n) (.int .i64 h.tk) (.int .i64 h.tn) (.slice o1 l1 c1) (.slice o2 l2 c2) (.int .i64 h.fr) (.int .i64 h.en)).drew
        | change Exit.then _ _ _ _ (put9 W3 B (.int .i64 h.k) (.string h.nm) (.int .i64 h.n) (.int .i64 h.tk) (.int .i64 h.tn) (.slice o1 l1 c1) (.slice o2 l2 c2) (.int .i64 h.fr) (.int .i64 h.en)).drew
      generalize (put9 W3 B (.int .i64 h.k) (.string h.nm) (.int .i64 h.n) (.int .i64 h.tk) (.int .i64 h.tn) (.slice o1 l1 c1) (.slice o2 l2 c2) (.int .i64 h.fr) (.int .i64 h.en)).drew = wf at *
      obtain ⟨⟨x0, x1, x2, x3, x4, x5, x6, x7, x8⟩, _⟩ := block9 hb9
      clear hb9
      go_wp2_with fail
      have hqf : Quiet0 w wf := (HQ3.out).trans' hf (fun k hk e => by have := HBE.out; omega)
      refine bodyPost_ret (by simp [results, Tryd.results37, go_sem, x0, x1, x2, x3, x4, x5, x6, x7, x8]; rfl) rfl ?_
      rw [HFE.out]
      exact ⟨o1, l1, c1, o2, l2, c2, rfl, HS1.out.fr hf (fun b _ k => by have k' : W0.heap.size ≤ b := k; exact ⟨by have := HBE.out; show w.heap.size ≤ b; omega, by omega⟩), HS2.out.fr hf (fun b _ k => by have k' : W0.heap.size ≤ b := k; exact ⟨by have := HBE.out; show w.heap.size ≤ b; omega, by omega⟩), hqf⟩
    case false =>
      have hk1 : ((t9.kind : Int) != 0) = true := by rw [bne, show ((t9.kind : Int) == 0) = false from hkn.trans hke]; rfl
      have HFE : Hid (res = .inr (j, 3)) := by show _ = _; rw [← HRES.out]; unfold wholeQ; rw [hr]; show (if endQ ts j = true then _ else _) = _; rw [if_neg (by rw [HEQ.out, hke]; simp)]
      have HWR := Lib.hid (wrong_any (j : Int) 3 W3)
      clear hkn hke
      go_wp2_with fail
      refine HWR.out.mono ?_; rintro e w4 ⟨rfl, hq4⟩
      have hr4 := blk_after hq4 HR3.out
      have hb4 := blk_after hq4 HB3.out
      clear r0 v0 r1 v1 r2 v2 r3 v3 r4 v4 r5 v5 r6 v6 r7 v7 r8 v8 r9 v9 r10 v10 r11 v11 r12 v12 t0 u0 t1 u1 t2 u2 t3 u3 t4 u4 t5 u5 t6 u6 t7 u7 t8 u8
      obtain ⟨r0, r1, r2, r3, r4, r5, r6, r7, r8, r9, r10, r11, r12⟩ := cells13 hr4
      have v0 := free13 hr4 0
      have v1 := free13 hr4 1
      have v2 := free13 hr4 2
      have v3 := free13 hr4 3
      have v4 := free13 hr4 4
      have v5 := free13 hr4 5
      have v6 := free13 hr4 6
      have v7 := free13 hr4 7
      have v8 := free13 hr4 8
      have v9 := free13 hr4 9
      have v10 := free13 hr4 10
      have v11 := free13 hr4 11
      have v12 := free13 hr4 12
      go_upto_region 4 with fail
      change Code.wp _ _ _ _ (put13 w4 rb (.int .i64 0) (.string ⟨#[]⟩) (.int .i64 0) (.int .i64 0) (.int .i64 0) (.slice none 0 0) (.slice none 0 0) (.int .i64 0) (.int .i64 0) (.int .i64 0) (.int .i64 0) (.int .i64 (j : Nat)) (.int .i64 3))
      have hf5 := put13_fr w4 rb (.int .i64 0) (.string ⟨#[]⟩) (.int .i64 0) (.int .i64 0) (.int .i64 0) (.slice none 0 0) (.slice none 0 0) (.int .i64 0) (.int .i64 0) (.int .i64 0) (.int .i64 0) (.int .i64 (j : Nat)) (.int .i64 3)
      have hr5 := put13_block (a0 := .int .i64 0) (a1 := .string ⟨#[]⟩) (a2 := .int .i64 0) (a3 := .int .i64 0) (a4 := .int .i64 0) (a5 := .slice none 0 0) (a6 := .slice none 0 0) (a7 := .int .i64 0) (a8 := .int .i64 0) (a9 := .int .i64 0) (a10 := .int .i64 0) (a11 := .int .i64 (j : Nat)) (a12 := .int .i64 3) hr4
      have hb5 := blk_fr hf5 (by omega) hb4
      have HB5 := Lib.hid hb5
      have HQ5 := Lib.hid ((HQ3.out.trans hq4).trans' hf5 (fun b hb e => by have := HBE.out; omega))
      clear hf5 hr4 hb4 hq4 r0 v0 r1 v1 r2 v2 r3 v3 r4 v4 r5 v5 r6 v6 r7 v7 r8 v8 r9 v9 r10 v10 r11 v11 r12 v12
      generalize put13 w4 rb (.int .i64 0) (.string ⟨#[]⟩) (.int .i64 0) (.int .i64 0) (.int .i64 0) (.slice none 0 0) (.slice none 0 0) (.int .i64 0) (.int .i64 0) (.int .i64 0) (.int .i64 0) (.int .i64 (j : Nat)) (.int .i64 3) = W5 at *
      obtain ⟨r0, r1, r2, r3, r4, r5, r6, r7, r8, r9, r10, r11, r12⟩ := cells13 hr5
      obtain ⟨⟨t0, t1, t2, t3, t4, t5, t6, t7, t8⟩, u0, u1, u2, u3, u4, u5, u6, u7, u8⟩ := block9 hb5
      clear hr5 hb5
      go_upto_region 5 with fail
      go_region
      have hf := (put9_fr W5 B (.int .i64 0) (.string ⟨#[]⟩) (.int .i64 0) (.int .i64 0) (.int .i64 0) (.slice none 0 0) (.slice none 0 0) (.int .i64 0) (.int .i64 0)).trans (Fr.drew (fun k => k = B) _)
      have hb9 := blk_after (Quiet0.drew _) (put9_block (a0 := .int .i64 0) (a1 := .string ⟨#[]⟩) (a2 := .int .i64 0) (a3 := .int .i64 0) (a4 := .int .i64 0) (a5 := .slice none 0 0) (a6 := .slice none 0 0) (a7 := .int .i64 0) (a8 := .int .i64 0) HB5.out)
      first
        | with_reducible change Exit.then _ _ _ _ (put9 W5 B (.int .i64 0) (.string ⟨#[]⟩) (.int .i64 0) (.int .i64 0) (.int .i64 0) (.slice none 0 0) (.slice none 0 0) (.int .i64 0) (.int .i64 0)).drew
        | change Exit.then _ _ _ _ (put9 W5 B (.int .i64 0) (.string ⟨#[]⟩) (.int .i64 0) (.int .i64 0) (.int .i64 0) (.slice none 0 0) (.slice none 0 0) (.int .i64 0) (.int .i64 0)).drew
      generalize (put9 W5 B (.int .i64 0) (.string ⟨#[]⟩) (.int .i64 0) (.int .i64 0) (.int .i64 0) (.slice none 0 0) (.slice none 0 0) (.int .i64 0) (.int .i64 0)).drew = wf at *
      obtain ⟨⟨x0, x1, x2, x3, x4, x5, x6, x7, x8⟩, _⟩ := block9 hb9
      clear hb9
      go_wp2_with fail
      have hqf : Quiet0 w wf := (HQ5.out).trans' hf (fun k hk e => by have := HBE.out; omega)
      refine bodyPost_ret (by simp [results, Tryd.results37, go_sem, x0, x1, x2, x3, x4, x5, x6, x7, x8]; rfl) rfl ?_
      rw [HFE.out]
      exact ⟨rfl, hqf⟩
theorem wordsA_place2 : ∀ (at' : Nat) (l : List UInt8) (p : Nat × Nat), wordsA at' l = .inr p → p.1 ≤ at' + l.length := by
  suffices h : ∀ (n : Nat) (at' : Nat) (l : List UInt8) (p : Nat × Nat), l.length ≤ n → wordsA at' l = .inr p → p.1 ≤ at' + l.length from fun a l ts hw => h l.length a l ts (Nat.le_refl _) hw
  intro n
  induction n with
  | zero =>
    intro a l p hl hw
    have : l = [] := List.eq_nil_of_length_eq_zero (by omega)
    subst this
    rw [wordsA_end rfl] at hw
    cases hw
  | succ n ih =>
    intro a l p hl hw
    have hle := skipL_le false l
    by_cases hk : skipL false l = l.length
    · rw [wordsA_end hk] at hw; cases hw
    · by_cases he : (nextL (l.drop (skipL false l))).2.2 = 0
      · have hlen := nextL_len he
        rw [wordsA_tok (by omega) he] at hw
        revert hw
        cases hr : wordsA (a + skipL false l + (nextL (l.drop (skipL false l))).2.1) ((l.drop (skipL false l)).drop (nextL (l.drop (skipL false l))).2.1) with
        | inr e =>
          intro hw
          have := ih _ _ e (by simp only [List.length_drop] at *; omega) hr
          cases hw
          simp only [List.length_drop] at *
          omega
        | inl us => intro hw; cases hw
      · rw [wordsA_bad (by omega) he] at hw; cases hw; simp; omega
def TrPost (w : World) (r : Sum (Nd × To) (Pt × Nat)) (e : Ending) (w' : World) : Prop := match r with
  | .inl (h, ps) => ∃ o1 l1 c1 o2 l2 c2, e = .returned (.tuple #[tmv h o1 l1 c1 o2 l2 c2, .agg #[.int .i64 0, .int .i64 0], .int .i64 0]) ∧ SlcIn (fun b => w.heap.size ≤ b) w' o1 l1 h.tp ∧ TSlc (fun b => w.heap.size ≤ b) w' o2 l2 ps ∧ Quiet0 w w'
  | .inr (p, er) => e = .returned (.tuple #[.agg zero9, .agg #[.int .i64 p.1, .int .i64 p.2], .int .i64 (er : Nat)]) ∧ Quiet0 w w'
theorem box2 {w : World} {B : Nat} {a b : Value} {t : TypeId} (h : w.heap[B]? = some (.cells #[a, b] t (0, 0))) : w.cell? ⟨B, 0, none⟩ = some a ∧ w.cell? ⟨B, 1, none⟩ = some b ∧ w.frozen? ⟨B, 0, none⟩ = false ∧ w.frozen? ⟨B, 1, none⟩ = false := by
  refine ⟨?_, ?_, ?_, ?_⟩
  · rw [cell_of_row _ _ _ _ _ (0, 0) h]; rfl
  · rw [cell_of_row _ _ _ _ _ (0, 0) h]; rfl
  · simp [World.frozen?, h]
  · simp [World.frozen?, h]
def put11 (w : World) (B C : Nat) (a0 a1 a2 a3 a4 a5 a6 a7 a8 b0 b1 : Value) : World := ((put9 w B a0 a1 a2 a3 a4 a5 a6 a7 a8).setCell ⟨C, 0, none⟩ b0).setCell ⟨C, 1, none⟩ b1
theorem put11_all {w : World} {B C : Nat} {z0 z1 z2 z3 z4 z5 z6 z7 z8 y0 y1 : Value} {t t' : TypeId} (h : w.heap[B]? = some (.cells #[z0, z1, z2, z3, z4, z5, z6, z7, z8] t (0, 0))) (h' : w.heap[C]? = some (.cells #[y0, y1] t' (0, 0))) (hn : B ≠ C) (a0 a1 a2 a3 a4 a5 a6 a7 a8 b0 b1 : Value) :
    Fr (fun k => k = B ∨ k = C) w (put11 w B C a0 a1 a2 a3 a4 a5 a6 a7 a8 b0 b1) ∧ (put11 w B C a0 a1 a2 a3 a4 a5 a6 a7 a8 b0 b1).heap[B]? = some (.cells #[a0, a1, a2, a3, a4, a5, a6, a7, a8] t (0, 0)) ∧ (put11 w B C a0 a1 a2 a3 a4 a5 a6 a7 a8 b0 b1).heap[C]? = some (.cells #[b0, b1] t' (0, 0)) := by
  have h1 := put9_fr w B a0 a1 a2 a3 a4 a5 a6 a7 a8
  have h2 := Fr.setCell (fun k => k = C) (put9 w B a0 a1 a2 a3 a4 a5 a6 a7 a8) ⟨C, 0, none⟩ b0 rfl
  have h3 := Fr.setCell (fun k => k = C) ((put9 w B a0 a1 a2 a3 a4 a5 a6 a7 a8).setCell ⟨C, 0, none⟩ b0) ⟨C, 1, none⟩ b1 rfl
  refine ⟨((h1.mono (fun _ _ k => .inl k)).trans (h2.mono (fun _ _ k => .inr k))).trans (h3.mono (fun _ _ k => .inr k)), blk_fr h3 hn (blk_fr h2 hn (put9_block h)), set_block (i := 1) (u := b1) (set_block (i := 0) (u := b0) (blk_fr h1 (fun e => hn e.symm) h'))⟩
theorem words_txt {s : List UInt8} {ts : List Tok} (h : wordsL s = .inl ts) : ∀ t ∈ ts, t.text.length ≤ s.length := by
  intro t ht
  by_cases hk : t.kind = 0
  · obtain ⟨us, n, rfl, hu⟩ := wordsF_last _ _ _ _ h
    rcases List.mem_append.1 ht with h1 | h1
    · exact absurd hk (hu t h1)
    · simp at h1; subst h1; exact Nat.zero_le _
  · have h1 := (words_good h t ht).2 hk
    rw [h1.2.2, List.length_take, List.length_drop]; omega
set_option maxRecDepth 100000 in
set_option maxHeartbeats 4000000 in
theorem term_any (s : ByteArray) (hs : s.size ≤ 100000) (f : Nat) (mo : Int) (hf : f = mo.toNat) (hm1 : -1000000 ≤ mo) (hm2 : mo ≤ 800000) (w : World) :
    Calls Tryd.prog 12 #[.string s, .int .i64 mo] w (TrPost w (termQ s.data.toList f)) := by
  obtain ⟨W0, hW0⟩ : ∃ W0, W0 = (w.alloc (.cells zero9 30)).alloc (.cells #[.int .i64 0, .int .i64 0] 28) := ⟨_, rfl⟩
  have HQ0 : Hid (Quiet0 w W0) := by rw [hW0]; exact (Quiet0.alloc _ _).trans (Quiet0.alloc _ _)
  have HB0 : Hid (W0.heap[w.heap.size]? = some (.cells zero9 30 (0, 0))) := by show _ = _; rw [hW0, Below.heap_alloc _ _ _ (by simp)]; exact heap_alloc_new w _
  have HS0 : Hid (W0.heap[w.heap.size + 1]? = some (.cells #[.int .i64 0, .int .i64 0] 28 (0, 0))) := by
    show _ = _; rw [hW0]
    have := heap_alloc_new (w.alloc (.cells zero9 30)) (.cells #[.int .i64 0, .int .i64 0] 28)
    simpa using this
  have HC := Lib.hid (refWords_any s hs W0)
  have HWH : Hid (∀ (ts : List Tok) (g c : Nat) (W : World), wordsL s.data.toList = .inl ts → TkAt W g ts → Calls Tryd.prog 37 #[tks g ts c, .int .i64 mo] W (WhPost W (wholeQ ts f))) := fun ts g c W hw ht => whole_any ts g c f mo W (words_shut hw).1 (words_shut hw).2 (fun t h => by have := words_txt hw t h; rw [bytes_length] at this; omega) ht hf hm1 hm2
  have HLE : Hid (∀ ts, wordsL s.data.toList = .inl ts → ts.length ≤ 1000000) := by
    intro ts h
    have := wordsA_len _ _ _ h
    rw [bytes_length] at this; omega
  obtain ⟨res, hres⟩ : ∃ res, termQ s.data.toList f = res := ⟨_, rfl⟩
  have HRES := Lib.hid hres
  rw [hres]
  clear hres hf
  go_enter Tryd.func12, Tryd.ntmps12
  go_wp2_with fail
  change Calls _ _ _ ((w.alloc (.cells zero9 30)).alloc (.cells #[.int .i64 0, .int .i64 0] 28)) _
  rw [← hW0]
  clear hW0
  generalize hB : w.heap.size = B at *
  have HBE := Lib.hid hB
  clear hB
  cases hw : wordsL s.data.toList with
  | inr y =>
    obtain ⟨a, er⟩ := y
    have hne : er ≠ 0 := wordsF_bad _ _ _ _ hw
    have hne2 : ((er : Int) != 0) = true := by simp [hne]
    have HFE : Hid (res = .inr (((a : Int), (a : Int) + 1), er)) := by show _ = _; rw [← HRES.out]; unfold termQ; rw [hw]
    refine HC.out.mono ?_; intro e w2 hp
    obtain ⟨hq2, rfl⟩ := hp.bad hw
    have ha : a ≤ 100000 := by have h1 : a ≤ 0 + s.data.toList.length := wordsA_place2 0 _ _ hw; rw [bytes_length] at h1; omega
    have HB2 := Lib.hid (blk_after hq2 HB0.out)
    have HS2 := Lib.hid (blk_after hq2 HS0.out)
    have HQ2 := Lib.hid (HQ0.out.trans hq2)
    have hb2 := HB2.out
    obtain ⟨s0, s1, s2, s3⟩ := box2 HS2.out
    obtain ⟨⟨t0, t1, t2, t3, t4, t5, t6, t7, t8⟩, u0, u1, u2, u3, u4, u5, u6, u7, u8⟩ := block9 hb2
    clear hb2 hq2 hp hw
    go_wp2_with fail
    obtain ⟨hf, hb9, hs9⟩ := put11_all HB2.out HS2.out (by omega) (.int .i64 0) (.string ⟨#[]⟩) (.int .i64 0) (.int .i64 0) (.int .i64 0) (.slice none 0 0) (.slice none 0 0) (.int .i64 0) (.int .i64 0) (.int .i64 (a : Nat)) (.int .i64 ((a : Int) + 1))
    change bodyPost _ _ _ _ _ (put11 w2 B (B + 1) (.int .i64 0) (.string ⟨#[]⟩) (.int .i64 0) (.int .i64 0) (.int .i64 0) (.slice none 0 0) (.slice none 0 0) (.int .i64 0) (.int .i64 0) (.int .i64 (a : Nat)) (.int .i64 ((a : Int) + 1)))
    generalize (put11 w2 B (B + 1) (.int .i64 0) (.string ⟨#[]⟩) (.int .i64 0) (.int .i64 0) (.int .i64 0) (.slice none 0 0) (.slice none 0 0) (.int .i64 0) (.int .i64 0) (.int .i64 (a : Nat)) (.int .i64 ((a : Int) + 1))) = wf at *
    obtain ⟨⟨x0, x1, x2, x3, x4, x5, x6, x7, x8⟩, _⟩ := block9 hb9
    obtain ⟨y0, y1, _, _⟩ := box2 hs9
    have hqf : Quiet0 w wf := (HQ2.out).trans' hf (fun k hk e => by have := HBE.out; omega)
    refine bodyPost_ret (by simp [results, Tryd.results12, go_sem, x0, x1, x2, x3, x4, x5, x6, x7, x8, y0, y1]; rfl) rfl ?_
    rw [HFE.out]
    exact ⟨rfl, hqf⟩
  | inl ts =>
    refine HC.out.mono ?_; intro e w2 hp
    obtain ⟨hq2, g, c, rfl, hrow⟩ := hp.ok hw
    have htk : TkAt w2 g ts := ⟨hrow.at, hrow.lt.2, HLE.out ts hw⟩
    have hlen := HLE.out ts hw
    have hgl : W0.heap.size ≤ g := hrow.lt.1
    have hz0 : B + 1 < W0.heap.size := lt_of_block HS0.out
    have HWC := Lib.hid (HWH.out ts g c w2 hw htk)
    have HSH := Lib.hid (words_shut hw)
    have HTR : Hid (res = match wholeQ ts f with
      | .inl (t, _, _) => .inl t
      | .inr (i, e) => .inr (at' ts i, e)) := by show _ = _; rw [← HRES.out]; unfold termQ; rw [hw]; rfl
    have HQ2 := Lib.hid hq2
    have HTK := Lib.hid htk
    clear hp hrow hw htk hq2
    go_wp2_with fail
    cases hr : wholeQ ts f with
    | inr y =>
      obtain ⟨j, er⟩ := y
      obtain ⟨hj, hne⟩ := wholeQ_in HSH.out.1 HSH.out.2 f j er hr
      have hne2 : ((er : Int) != 0) = true := by simp [hne]
      rw [hr] at HWC HTR
      refine HWC.out.mono ?_; rintro e w3 ⟨rfl, hq3⟩
      obtain ⟨W4, hW4⟩ : ∃ W4, W4 = w3.alloc (.cells zero9 30) := ⟨_, rfl⟩
      have hq4 : Quiet0 w2 W4 := by rw [hW4]; exact hq3.trans (Quiet0.alloc _ _)
      obtain ⟨t9, ht9⟩ : ∃ t9, ts[j]? = some t9 := ⟨_, List.getElem?_eq_getElem hj⟩
      have HAT : Hid (at' ts j = (((t9.fr : Nat) : Int), ((t9.to : Nat) : Int))) := at_tok ht9
      obtain ⟨k0, k1, k2, k3⟩ := (HTK.out.stay hq4).cells j t9 ht9
      have hjl : (j : Int) < ts.length := by omega
      have hj0 : (0 : Int) ≤ j := by omega
      have HB4 := Lib.hid (blk_after (HQ2.out.trans hq4) HB0.out)
      have HS4 := Lib.hid (blk_after (HQ2.out.trans hq4) HS0.out)
      have HQ4 := Lib.hid (HQ0.out.trans (HQ2.out.trans hq4))
      have hg2 := HTK.out.lt
      have hn1 : ¬ B = g := by omega
      have hn2 : ¬ g = B := by omega
      have hn3 : ¬ B + 1 = g := by omega
      have hn4 : ¬ g = B + 1 := by omega
      go_upto_region 6 with fail
      change Code.wp _ _ _ _ (w3.alloc (.cells zero9 30))
      rw [← hW4]
      clear hW4 hq4 hq3 ht9 hr
      have hb4 := HB4.out
      obtain ⟨s0, s1, s2, s3⟩ := box2 HS4.out
      obtain ⟨⟨t0, t1, t2, t3, t4, t5, t6, t7, t8⟩, u0, u1, u2, u3, u4, u5, u6, u7, u8⟩ := block9 hb4
      clear hb4
      go_region
      obtain ⟨hf, hb9, hs9⟩ := put11_all HB4.out HS4.out (by omega) (.int .i64 0) (.string ⟨#[]⟩) (.int .i64 0) (.int .i64 0) (.int .i64 0) (.slice none 0 0) (.slice none 0 0) (.int .i64 0) (.int .i64 0) (.int .i64 (t9.fr : Nat)) (.int .i64 (t9.to : Nat))
      change Exit.then _ _ _ _ (put11 W4 B (B + 1) (.int .i64 0) (.string ⟨#[]⟩) (.int .i64 0) (.int .i64 0) (.int .i64 0) (.slice none 0 0) (.slice none 0 0) (.int .i64 0) (.int .i64 0) (.int .i64 (t9.fr : Nat)) (.int .i64 (t9.to : Nat))).drew
      replace hf := hf.trans (Fr.drew _ _)
      replace hb9 := blk_after (Quiet0.drew _) hb9
      replace hs9 := blk_after (Quiet0.drew _) hs9
      generalize (put11 W4 B (B + 1) (.int .i64 0) (.string ⟨#[]⟩) (.int .i64 0) (.int .i64 0) (.int .i64 0) (.slice none 0 0) (.slice none 0 0) (.int .i64 0) (.int .i64 0) (.int .i64 (t9.fr : Nat)) (.int .i64 (t9.to : Nat))).drew = wf at *
      obtain ⟨⟨x0, x1, x2, x3, x4, x5, x6, x7, x8⟩, _⟩ := block9 hb9
      obtain ⟨y0, y1, _, _⟩ := box2 hs9
      go_wp2_with fail
      have hqf : Quiet0 w wf := (HQ4.out).trans' hf (fun k hk e => by have := HBE.out; omega)
      refine bodyPost_ret (by simp [results, Tryd.results12, go_sem, x0, x1, x2, x3, x4, x5, x6, x7, x8, y0, y1]; rfl) rfl ?_
      rw [HTR.out, HAT.out]
      exact ⟨rfl, hqf⟩
    | inl y =>
      obtain ⟨⟨h, ps⟩, x, j⟩ := y
      rw [hr] at HWC HTR
      refine HWC.out.mono ?_; rintro e w3 ⟨o1, l1, c1, o2, l2, c2, rfl, hs1, hs2, hq3⟩
      obtain ⟨W4, hW4⟩ : ∃ W4, W4 = w3.alloc (.cells (cells9 h o1 l1 c1 o2 l2 c2) 30) := ⟨_, rfl⟩
      have hqa : Quiet0 w3 W4 := by rw [hW4]; exact Quiet0.alloc _ _
      have hq4 : Quiet0 w2 W4 := hq3.trans hqa
      have hx4 : W4.heap[w3.heap.size]? = some (.cells (cells9 h o1 l1 c1 o2 l2 c2) 30 (0, 0)) := by rw [hW4]; exact heap_alloc_new w3 _
      have HB4 := Lib.hid (blk_after (HQ2.out.trans hq4) HB0.out)
      have HS4 := Lib.hid (blk_after (HQ2.out.trans hq4) HS0.out)
      have HQ4 := Lib.hid (HQ0.out.trans (HQ2.out.trans hq4))
      have HS1 := Lib.hid (hs1.stay hqa)
      have HS2 := Lib.hid (hs2.stay hqa)
      have hw2 : B + 1 < w2.heap.size := Nat.lt_of_lt_of_le (lt_of_block HS0.out) HQ2.out.size
      unfold tmv
      go_upto_region 5 with fail
      change Code.wp _ _ _ _ (w3.alloc (.cells (cells9 h o1 l1 c1 o2 l2 c2) 30))
      rw [← hW4]
      clear hW4 hq4 hq3 hqa hs1 hs2 hr
      generalize w3.heap.size = yb at *
      have hb4 := HB4.out
      obtain ⟨s0, s1, s2, s3⟩ := box2 HS4.out
      obtain ⟨⟨t0, t1, t2, t3, t4, t5, t6, t7, t8⟩, u0, u1, u2, u3, u4, u5, u6, u7, u8⟩ := block9 hb4
      obtain ⟨⟨r0, r1, r2, r3, r4, r5, r6, r7, r8⟩, v0, v1, v2, v3, v4, v5, v6, v7, v8⟩ := block9 hx4
      clear hb4 hx4
      go_wp2_with fail
      obtain ⟨hf, hb9, hs9⟩ := put11_all HB4.out HS4.out (by omega) (.int .i64 h.k) (.string h.nm) (.int .i64 h.n) (.int .i64 h.tk) (.int .i64 h.tn) (.slice o1 l1 c1) (.slice o2 l2 c2) (.int .i64 h.fr) (.int .i64 h.en) (.int .i64 0) (.int .i64 0)
      change bodyPost _ _ _ _ _ (put11 W4 B (B + 1) (.int .i64 h.k) (.string h.nm) (.int .i64 h.n) (.int .i64 h.tk) (.int .i64 h.tn) (.slice o1 l1 c1) (.slice o2 l2 c2) (.int .i64 h.fr) (.int .i64 h.en) (.int .i64 0) (.int .i64 0))
      generalize (put11 W4 B (B + 1) (.int .i64 h.k) (.string h.nm) (.int .i64 h.n) (.int .i64 h.tk) (.int .i64 h.tn) (.slice o1 l1 c1) (.slice o2 l2 c2) (.int .i64 h.fr) (.int .i64 h.en) (.int .i64 0) (.int .i64 0)) = wf at *
      obtain ⟨⟨x0, x1, x2, x3, x4, x5, x6, x7, x8⟩, _⟩ := block9 hb9
      obtain ⟨y0, y1, _, _⟩ := box2 hs9
      have hqf : Quiet0 w wf := (HQ4.out).trans' hf (fun k hk e => by have := HBE.out; omega)
      refine bodyPost_ret (by simp [results, Tryd.results12, go_sem, x0, x1, x2, x3, x4, x5, x6, x7, x8, y0, y1]; rfl) rfl ?_
      rw [HTR.out]
      exact ⟨o1, l1, c1, o2, l2, c2, rfl, HS1.out.fr hf (fun b _ k => by have k' : w2.heap.size ≤ b := k; exact ⟨by have := HBE.out; show w.heap.size ≤ b; omega, by omega⟩), HS2.out.fr hf (fun b _ k => by have k' : w2.heap.size ≤ b := k; exact ⟨by have := HBE.out; show w.heap.size ≤ b; omega, by omega⟩), hqf⟩
end Go.Proofs.YtnfodiedalhlhaaDoor.Pa
end
section
namespace Go.Proofs.YtnfodiedalhlhaaDoor
open Go.RowKit Go.Shelf Lx Pa
namespace Cn
abbrev txt18 : ByteArray := ⟨#[108, 101, 116, 32, 105, 32, 61, 32, 102, 117, 110, 32, 120, 32, 45, 62, 32, 120, 32, 105, 110, 32, 105, 32, 105]⟩
def h18 : Nd := ⟨6, ⟨#[105]⟩, 0, 0, 0, .nil, 0, 25⟩
def p18 : To := .cons ⟨4, ⟨#[120]⟩, 0, 0, 0, .nil, 8, 18⟩ (.cons ⟨1, ⟨#[120]⟩, 0, 0, 0, .nil, 17, 18⟩ .nil .nil) (.cons ⟨5, ⟨#[]⟩, 0, 0, 0, .nil, 22, 25⟩ (.cons ⟨1, ⟨#[105]⟩, 0, 0, 0, .nil, 22, 23⟩ .nil (.cons ⟨1, ⟨#[105]⟩, 0, 0, 0, .nil, 24, 25⟩ .nil .nil)) .nil)
theorem t18 : termQ txt18.data.toList 9 = .inl (h18, p18) := by kernel_rfl
theorem n18 : eqsN h18 p18 = (10, 0) := by kernel_rfl
theorem g18 : allT GoodH (.cons h18 p18 .nil) := by
  have h : ∀ k nm a b, nm.size ≤ 100000 → GoodH ⟨k, nm, 0, 0, 0, .nil, a, b⟩ := fun k nm a b hn => ⟨hn, Nat.zero_le _, (by decide : (Lit.int .i64 0).wf = true), trivial⟩
  exact ⟨h _ _ _ _ (by decide), ⟨h _ _ _ _ (by decide), ⟨h _ _ _ _ (by decide), trivial, trivial⟩, ⟨h _ _ _ _ (by decide), ⟨h _ _ _ _ (by decide), trivial, ⟨h _ _ _ _ (by decide), trivial, trivial⟩⟩, trivial⟩⟩, trivial⟩
theorem z18 : p18.size ≤ 100000 := by decide
set_option maxRecDepth 100000 in
set_option maxHeartbeats 4000000 in
theorem awake18_any (w : World) (ht : Lx.Spaces w) : Calls Tryd.prog 30 #[] w fun e w' => e = .returned (.bool true) ∧ Quiet0 w w' := by
  have HC := Lib.hid (term_any txt18 (by decide) 9 9 rfl (by decide) (by decide) w)
  rw [t18] at HC
  have HN := n18
  have HG := g18
  have HZ := z18
  have HT := Lib.hid ht
  clear ht
  generalize h18 = h at *
  generalize p18 = ps at *
  have HE : Hid (∀ (W : World) (o1 : Option Addr) (l1 c1 : Nat) (o2 : Option Addr) (l2 c2 : Nat), SlcIn (fun b => w.heap.size ≤ b) W o1 l1 h.tp → TSlc (fun b => w.heap.size ≤ b) W o2 l2 ps → Quiet0 w W → Calls Tryd.prog 29 #[tmv h o1 l1 c1 o2 l2 c2] W fun e w' => e = .returned (.tuple #[.int .i64 10, .int .i64 0]) ∧ Quiet0 W w') := fun W o1 l1 c1 o2 l2 c2 k1 k2 hq => by
    have k := eqs_any h ps W _ o1 l1 c1 o2 l2 c2 k1 k2 HZ HG (HT.out.stay hq)
    rw [HN] at k; exact k
  unfold tmv at HE
  clear HN HG HZ HT
  go_enter Tryd.func30, Tryd.ntmps30
  go_wp2_with fail
  refine HC.out.mono ?_; rintro x w1 ⟨o1, l1, c1, o2, l2, c2, rfl, hs1, hs2, hq1⟩
  unfold tmv
  obtain ⟨W2, hW2⟩ : ∃ W2, W2 = (w1.alloc (.cells (cells9 h o1 l1 c1 o2 l2 c2) 30)).alloc (.cells #[.int .i64 0, .int .i64 0] 28) := ⟨_, rfl⟩
  have hqa : Quiet0 w1 W2 := by rw [hW2]; exact (Quiet0.alloc _ _).trans (Quiet0.alloc _ _)
  have hb2 : W2.heap[w1.heap.size]? = some (.cells (cells9 h o1 l1 c1 o2 l2 c2) 30 (0, 0)) := by
    rw [hW2, Below.heap_alloc _ _ _ (by simp)]; exact heap_alloc_new w1 _
  have HQ2 := Lib.hid (hq1.trans hqa)
  have HE2 := Lib.hid (HE.out W2 o1 l1 c1 o2 l2 c2 (hs1.stay hqa) (hs2.stay hqa) HQ2.out)
  go_upto_region 2 with fail
  change Code.wp _ _ _ _ ((w1.alloc (.cells (cells9 h o1 l1 c1 o2 l2 c2) 30)).alloc (.cells #[.int .i64 0, .int .i64 0] 28))
  rw [← hW2]
  clear hW2 hqa hq1 hs1 hs2
  generalize w1.heap.size = tb at *
  obtain ⟨a0, a1, a2, a3, a4, a5, a6, a7, a8⟩ := cells9_block hb2
  clear hb2
  go_wp2_with fail
  refine HE2.out.mono ?_; rintro x w3 ⟨rfl, hq3⟩
  have HQ3 := Lib.hid (HQ2.out.trans hq3)
  clear hq3
  go_wp2_with fail
  go_ret
  exact ⟨rfl, HQ3.out⟩
end Cn
end Go.Proofs.YtnfodiedalhlhaaDoor
end
section
namespace Go.Proofs.YtnfodiedalhlhaaDoor
open Go.RowKit Go.Shelf
namespace Sc
theorem with_nm {T : Nat → Prop} {w W w3 : World} {o : Option Addr} {n : Nat} {e : List ByteArray} {G : Prop} (h : NmIn T w o n e) (hq : Quiet0 w W) (hqx : Quiet0 W w3) (k : NmIn T w3 o n e → G) : G := k (h.stay (hq.trans hqx))
def RAlkT (h : Nd) (ps : To) : Prop := ∀ (h' : Nd) (ps' : To) (w : World) (R T T' : Nat → Prop) (o1 : Option Addr) (l1 c1 : Nat) (o2 : Option Addr) (l2 c2 : Nat) (p1 : Option Addr) (m1 d1 : Nat) (p2 : Option Addr) (m2 d2 : Nat) (no : Option Addr) (nn nc : Nat) (x : List ByteArray) (no' : Option Addr) (nn' nc' : Nat) (y : List ByteArray),
  SlcIn R w o1 l1 h.tp → TSlc R w o2 l2 ps → SlcIn R w p1 m1 h'.tp → TSlc R w p2 m2 ps' → NmIn T w no nn x → NmIn T' w no' nn' y → nn + ps.size ≤ 200000 → nn' + ps.size ≤ 200000 →
  Calls Tryd.prog 24 #[tmv h o1 l1 c1 o2 l2 c2, tmv h' p1 m1 d1 p2 m2 d2, .slice no nn nc, .slice no' nn' nc'] w fun e w' => e = .returned (.bool (refA1 x y h ps h' ps')) ∧ Quiet0 w w'
set_option maxRecDepth 100000 in
set_option maxHeartbeats 8000000 in
theorem ref8Alike_any (h : Nd) (ps : To) : RAlkT h ps := by
  refine To.ind' (T := RAlkT) ?_ h ps
  intro h ps ih h' ps' w R T T' o1 l1 c1 o2 l2 c2 p1 m1 d1 p2 m2 d2 no nn nc x no' nn' nc' y hs1 hs hs1' hs' hN hN' hsz hsz'
  have IH := Lib.hid ih
  have HS := Lib.hid hs
  have HS' := Lib.hid hs'
  have HN := Lib.hid hN
  have HN' := Lib.hid hN'
  have HL := Lib.hid hs.1
  have HL' := Lib.hid hs'.1
  have hll := To.length_le ps
  rw [← hs.1] at hll
  have hmx := hs.2.1
  have hmx' := hs'.2.1
  unfold maxLen at hmx hmx'
  obtain ⟨W0, hW0⟩ : ∃ W0, W0 = (w.alloc (.cells (cells9 h o1 l1 c1 o2 l2 c2) 30)).alloc (.cells (cells9 h' p1 m1 d1 p2 m2 d2) 30) := ⟨_, rfl⟩
  have HB : Hid (∀ W, Quiet0 W0 W → Cells9 W w.heap.size 0 h o1 l1 c1 o2 l2 c2 ∧ Cells9 W (w.heap.size + 1) 0 h' p1 m1 d1 p2 m2 d2) := by
    intro W hq; rw [hW0] at hq; exact box92 w h o1 l1 c1 o2 l2 c2 h' p1 m1 d1 p2 m2 d2 _ W hq
  have HQ0 : Hid (Quiet0 w W0) := by rw [hW0]; exact (Quiet0.alloc _ _).trans (Quiet0.alloc _ _)
  have HC := Lib.hid (fun (W : World) (hq : Quiet0 W0 W) => refSame_any h.tk h.tn h.tp h'.tk h'.tn h'.tp W o1 l1 c1 p1 m1 d1 (hs1.slc.stay (HQ0.out.trans hq)) (hs1'.slc.stay (HQ0.out.trans hq)))
  have HI1 : Hid (∀ W, Quiet0 W0 W → Calls Tryd.prog 20 #[.slice no nn nc, .string h.nm] W fun z w' => z = .returned (.int .i64 (ix x h.nm)) ∧ W = w') := fun W hq => refIndex_any T x h.nm no nn nc W (hN.stay (HQ0.out.trans hq)) (by omega)
  have HI2 : Hid (∀ W, Quiet0 W0 W → Calls Tryd.prog 20 #[.slice no' nn' nc', .string h'.nm] W fun z w' => z = .returned (.int .i64 (ix y h'.nm)) ∧ W = w') := fun W hq => refIndex_any T' y h'.nm no' nn' nc' W (hN'.stay (HQ0.out.trans hq)) (by omega)
  have HNL := Lib.hid hN.1
  have HNL' := Lib.hid hN'.1
  unfold tyv at HC
  have HRA : Hid (refA1 x y h ps h' ps' = ((h.k == h'.k) && (l2 == m2) && sameT h.tk h.tn h.tp h'.tk h'.tn h'.tp && (if h.k = 1 then (ix x h.nm == ix y h'.nm) && (decide (0 ≤ ix x h.nm) || h.nm.toList == h'.nm.toList)
        else (h.n == h'.n) && refAR h.k h.nm h'.k h'.nm 0 x y ps ps'))) := by show _ = _; rw [hs.1, hs'.1]; rfl
  obtain ⟨res, hres⟩ : ∃ res, res = refA1 x y h ps h' ps' := ⟨_, rfl⟩
  rw [← hres]
  rw [← hres] at HRA
  clear hs1 hs hs1' hs' hN hN' ih hres
  generalize sameT h.tk h.tn h.tp h'.tk h'.tn h'.tp = sb at *
  have e1 : ∀ a b : Nat, ((a : Int) != (b : Int)) = !(a == b) := fun a b => by
    rw [bne]; congr 1; rw [Bool.eq_iff_iff, beq_iff_eq, beq_iff_eq]; omega
  have E1 := Lib.hid e1
  clear e1
  unfold tmv
  cases hk : (h.k == h'.k)
  case false =>
    have hk' : (h.k != h'.k) = true := by simp [bne, hk]
    have HR : Hid (res = false) := by show _ = _; rw [HRA.out, hk]; rfl
    clear HRA
    rw [HR.out]
    go_enter Tryd.func24, Tryd.ntmps24
    go_upto_region 1 with fail
    rw [← hW0]
    clear hW0
    generalize hnb : w.heap.size = nb at *
    have HNB := Lib.hid hnb
    clear hnb
    obtain ⟨⟨a0, a1, a2, a3, a4, a5, a6, a7, a8⟩, b0, b1, b2, b3, b4, b5, b6, b7, b8⟩ := HB.out W0 (Quiet0.refl _)
    go_wp2_with fail
    go_ret
    exact ⟨rfl, HQ0.out⟩
  have hk' : (h.k != h'.k) = false := by simp [bne, hk]
  cases hl : (l2 == m2)
  case false =>
    have hl' : ((l2 : Int) != (m2 : Int)) = true := by rw [E1.out, hl]; rfl
    have HR : Hid (res = false) := by show _ = _; rw [HRA.out, hk, hl]; rfl
    clear HRA
    rw [HR.out]
    go_enter Tryd.func24, Tryd.ntmps24
    go_upto_region 1 with fail
    rw [← hW0]
    clear hW0
    generalize hnb : w.heap.size = nb at *
    have HNB := Lib.hid hnb
    clear hnb
    obtain ⟨⟨a0, a1, a2, a3, a4, a5, a6, a7, a8⟩, b0, b1, b2, b3, b4, b5, b6, b7, b8⟩ := HB.out W0 (Quiet0.refl _)
    go_wp2_with fail
    go_ret
    exact ⟨rfl, HQ0.out⟩
  have hl' : ((l2 : Int) != (m2 : Int)) = false := by rw [E1.out, hl]; rfl
  have HLM : Hid (l2 = m2) := by show _ = _; simpa using hl
  cases sb
  case false =>
    have HR : Hid (res = false) := by show _ = _; rw [HRA.out, hk, hl]; rfl
    clear HRA
    rw [HR.out]
    go_enter Tryd.func24, Tryd.ntmps24
    go_upto_region 1 with fail
    rw [← hW0]
    clear hW0
    generalize hnb : w.heap.size = nb at *
    have HNB := Lib.hid hnb
    clear hnb
    obtain ⟨⟨a0, a1, a2, a3, a4, a5, a6, a7, a8⟩, b0, b1, b2, b3, b4, b5, b6, b7, b8⟩ := HB.out W0 (Quiet0.refl _)
    go_wp2_with fail
    refine (HC.out _ (Quiet0.refl _)).mono ?_; rintro e w1 ⟨rfl, hq1⟩
    go_wp2_with fail
    go_ret
    exact ⟨rfl, HQ0.out.trans hq1⟩
  by_cases hk1 : h.k = 1
  · have hk1' : (h.k == 1) = true := by simp [hk1]
    have HR : Hid (res = ((ix x h.nm == ix y h'.nm) && (decide (0 ≤ ix x h.nm) || h.nm.toList == h'.nm.toList))) := by show _ = _; rw [HRA.out, hk, hl, if_pos hk1]; rfl
    clear HRA hk1 IH
    generalize ix x h.nm = r1 at *
    generalize ix y h'.nm = r2 at *
    go_enter Tryd.func24, Tryd.ntmps24
    go_upto_region 1 with fail
    rw [← hW0]
    clear hW0
    generalize hnb : w.heap.size = nb at *
    have HNB := Lib.hid hnb
    clear hnb
    obtain ⟨⟨a0, a1, a2, a3, a4, a5, a6, a7, a8⟩, b0, b1, b2, b3, b4, b5, b6, b7, b8⟩ := HB.out W0 (Quiet0.refl _)
    go_wp2_with fail
    refine (HC.out _ (Quiet0.refl _)).mono ?_; rintro e w1 ⟨rfl, hq1⟩
    clear a0 a1 a2 a3 a4 a5 a6 a7 a8 b0 b1 b2 b3 b4 b5 b6 b7 b8
    obtain ⟨⟨a0, a1, a2, a3, a4, a5, a6, a7, a8⟩, b0, b1, b2, b3, b4, b5, b6, b7, b8⟩ := HB.out w1 hq1
    have HQ1 := Lib.hid hq1
    clear hq1
    go_upto_region 4 with fail
    have HJ1 : Hid (∀ n, Calls Tryd.prog 20 #[.slice no nn nc, .string h.nm] (w1.drewN n) fun z w' => z = .returned (.int .i64 r1) ∧ ∃ m, w' = w1.drewN m) := fun n => (HI1.out _ (HQ1.out.trans (Quiet0.drewN _ _))).mono (fun _ _ hh => ⟨hh.1, n, hh.2.symm⟩)
    have HJ2 : Hid (∀ n, Calls Tryd.prog 20 #[.slice no' nn' nc', .string h'.nm] (w1.drewN n) fun z w' => z = .returned (.int .i64 r2) ∧ ∃ m, w' = w1.drewN m) := fun n => (HI2.out _ (HQ1.out.trans (Quiet0.drewN _ _))).mono (fun _ _ hh => ⟨hh.1, n, hh.2.symm⟩)
    go_quiet ((go_at_call 20; first | with_reducible exact HJ1.out _ | with_reducible exact HJ2.out _))
    have HQ2 : Hid (Quiet0 w (w1.drewN nq)) := HQ0.out.trans (HQ1.out.trans (Quiet0.drewN _ _))
    clear HJ1 HJ2 HI1 HI2
    cases he : (r1 == r2)
    · have HE : Hid (res = false) := by show _ = _; rw [HR.out, he]; rfl
      go_wp2_with fail
      go_ret
      exact ⟨by rw [HE.out]; rfl, HQ2.out⟩
    · by_cases h0 : r1 ≥ 0
      · have h0' : decide (r1 ≥ 0) = true := by simp [h0]
        have HE : Hid (res = true) := by show _ = _; rw [HR.out, he]; have : decide (0 ≤ r1) = true := h0'; rw [this]; rfl
        go_wp2_with fail
        go_ret
        exact ⟨by rw [HE.out]; rfl, HQ2.out⟩
      · have h0' : decide (r1 ≥ 0) = false := by simp [h0]
        have HE : Hid (res = (h.nm.toList == h'.nm.toList)) := by show _ = _; rw [HR.out, he]; have : decide (0 ≤ r1) = false := h0'; rw [this]; rfl
        go_wp2_with fail
        go_ret
        exact ⟨by rw [HE.out]; rfl, HQ2.out⟩
  · have hk1' : (h.k == 1) = false := by simp [hk1]
    have hlm := HLM.out
    subst hlm
    have HR : Hid (res = ((h.n == h'.n) && refAR h.k h.nm h'.k h'.nm 0 x y ps ps')) := by show _ = _; rw [HRA.out, hk, hl, if_neg hk1]; rfl
    rw [HR.out]
    clear HRA HR hk1
    obtain ⟨RES, hres⟩ : ∃ RES, RES = refAR h.k h.nm h'.k h'.nm 0 x y ps ps' := ⟨_, rfl⟩
    rw [← hres]
    have HRES := Lib.hid hres
    clear hres HI1 HI2
    cases hn : (h.n == h'.n)
    case false =>
      have hn' : (h.n != h'.n) = true := by simp [bne, hn]
      go_enter Tryd.func24, Tryd.ntmps24
      go_upto_region 1 with fail
      rw [← hW0]
      clear hW0
      generalize hnb : w.heap.size = nb at *
      have HNB := Lib.hid hnb
      clear hnb
      obtain ⟨⟨a0, a1, a2, a3, a4, a5, a6, a7, a8⟩, b0, b1, b2, b3, b4, b5, b6, b7, b8⟩ := HB.out W0 (Quiet0.refl _)
      go_wp2_with fail
      refine (HC.out _ (Quiet0.refl _)).mono ?_; rintro e w1 ⟨rfl, hq1⟩
      clear a0 a1 a2 a3 a4 a5 a6 a7 a8 b0 b1 b2 b3 b4 b5 b6 b7 b8
      obtain ⟨⟨a0, a1, a2, a3, a4, a5, a6, a7, a8⟩, b0, b1, b2, b3, b4, b5, b6, b7, b8⟩ := HB.out w1 hq1
      go_wp2_with fail
      go_ret
      exact ⟨rfl, HQ0.out.trans hq1⟩
    have hn' : (h.n != h'.n) = false := by simp [bne, hn]
    go_enter Tryd.func24, Tryd.ntmps24
    go_upto_region 1 with fail
    rw [← hW0]
    clear hW0
    generalize hnb : w.heap.size = nb at *
    have HNB := Lib.hid hnb
    clear hnb
    obtain ⟨⟨a0, a1, a2, a3, a4, a5, a6, a7, a8⟩, b0, b1, b2, b3, b4, b5, b6, b7, b8⟩ := HB.out W0 (Quiet0.refl _)
    go_wp2_with fail
    refine (HC.out _ (Quiet0.refl _)).mono ?_; rintro e w1 ⟨rfl, hq1⟩
    clear a0 a1 a2 a3 a4 a5 a6 a7 a8 b0 b1 b2 b3 b4 b5 b6 b7 b8
    obtain ⟨⟨a0, a1, a2, a3, a4, a5, a6, a7, a8⟩, b0, b1, b2, b3, b4, b5, b6, b7, b8⟩ := HB.out w1 hq1
    have HQ1 := Lib.hid hq1
    clear hq1
    go_wp2_with fail
    clear a0 a1 a2 a3 a4 a5 a6 a7 a8 b0 b1 b2 b3 b4 b5 b6 b7 b8 hk' hl' hn' hk hl hn hk1'
    go_loopw [8, 11] (fun s t wr => ∃ (i : Nat), s = .bool false ∧ t = .int .i64 i ∧ i ≤ l2 ∧ refAR h.k h.nm h'.k h'.nm i x y (ps.drop i) (ps'.drop i) = RES ∧ Quiet0 W0 wr) (fun _ t _ => l2 - (intOf t).toNat)
    case atStart => exact ⟨0, rfl, rfl, Nat.zero_le _, by rw [To.drop_zero, To.drop_zero, HRES.out], HQ1.out⟩
    case round =>
      obtain ⟨i, rfl, rfl, hi, hpe, hq⟩ := hrel
      have HPE := Lib.hid hpe
      have HQ := Lib.hid hq
      clear hpe hq
      obtain ⟨⟨a0, a1, a2, a3, a4, a5, a6, a7, a8⟩, b0, b1, b2, b3, b4, b5, b6, b7, b8⟩ := HB.out wr HQ.out
      by_cases hlt : i < l2
      · have hlt' : (i : Int) < l2 := by omega
        have hq0r := HQ0.out.trans HQ.out
        obtain ⟨b, off, hd, qs, p3, m3, d3, p4, m4, d4, rfl, hd1, hg, _, hc9, hs3, ht3⟩ := (HS.out).nth hlt
        obtain ⟨b', off', hd', qs', p5, m5, d5, p6, m6, d6, rfl, hd1', hg', _, hc9', hs5, ht5⟩ := (HS'.out).nth hlt
        have hsq := To.size_get ps i hd qs hg
        have HKP : Hid (∀ W, Quiet0 wr W → (W.cell? ⟨nb, 0, none⟩ = some (.int .i64 h.k) ∧ W.cell? ⟨nb, 1, none⟩ = some (.string h.nm) ∧ W.cell? ⟨nb, 2, none⟩ = some (.int .i64 h.n) ∧ W.cell? ⟨nb, 3, none⟩ = some (.int .i64 h.tk) ∧ W.cell? ⟨nb, 4, none⟩ = some (.int .i64 h.tn) ∧ W.cell? ⟨nb, 5, none⟩ = some (.slice o1 l1 c1) ∧ W.cell? ⟨nb, 6, none⟩ = some (.slice (some ⟨b, off, none⟩) l2 c2) ∧ W.cell? ⟨nb, 7, none⟩ = some (.int .i64 h.fr) ∧ W.cell? ⟨nb, 8, none⟩ = some (.int .i64 h.en)) ∧ (W.cell? ⟨nb + 1, 0, none⟩ = some (.int .i64 h'.k) ∧ W.cell? ⟨nb + 1, 1, none⟩ = some (.string h'.nm) ∧ W.cell? ⟨nb + 1, 2, none⟩ = some (.int .i64 h'.n) ∧ W.cell? ⟨nb + 1, 3, none⟩ = some (.int .i64 h'.tk) ∧ W.cell? ⟨nb + 1, 4, none⟩ = some (.int .i64 h'.tn) ∧ W.cell? ⟨nb + 1, 5, none⟩ = some (.slice p1 m1 d1) ∧ W.cell? ⟨nb + 1, 6, none⟩ = some (.slice (some ⟨b', off', none⟩) l2 d2) ∧ W.cell? ⟨nb + 1, 7, none⟩ = some (.int .i64 h'.fr) ∧ W.cell? ⟨nb + 1, 8, none⟩ = some (.int .i64 h'.en)) ∧ (W.cell? ⟨b, off + i * 9, none⟩ = some (.int .i64 hd.k) ∧ W.cell? ⟨b, off + i * 9 + 1, none⟩ = some (.string hd.nm) ∧ W.cell? ⟨b, off + i * 9 + 2, none⟩ = some (.int .i64 hd.n) ∧ W.cell? ⟨b, off + i * 9 + 3, none⟩ = some (.int .i64 hd.tk) ∧ W.cell? ⟨b, off + i * 9 + 4, none⟩ = some (.int .i64 hd.tn) ∧ W.cell? ⟨b, off + i * 9 + 5, none⟩ = some (.slice p3 m3 d3) ∧ W.cell? ⟨b, off + i * 9 + 6, none⟩ = some (.slice p4 m4 d4) ∧ W.cell? ⟨b, off + i * 9 + 7, none⟩ = some (.int .i64 hd.fr) ∧ W.cell? ⟨b, off + i * 9 + 8, none⟩ = some (.int .i64 hd.en)) ∧ (W.cell? ⟨b', off' + i * 9, none⟩ = some (.int .i64 hd'.k) ∧ W.cell? ⟨b', off' + i * 9 + 1, none⟩ = some (.string hd'.nm) ∧ W.cell? ⟨b', off' + i * 9 + 2, none⟩ = some (.int .i64 hd'.n) ∧ W.cell? ⟨b', off' + i * 9 + 3, none⟩ = some (.int .i64 hd'.tk) ∧ W.cell? ⟨b', off' + i * 9 + 4, none⟩ = some (.int .i64 hd'.tn) ∧ W.cell? ⟨b', off' + i * 9 + 5, none⟩ = some (.slice p5 m5 d5) ∧ W.cell? ⟨b', off' + i * 9 + 6, none⟩ = some (.slice p6 m6 d6) ∧ W.cell? ⟨b', off' + i * 9 + 7, none⟩ = some (.int .i64 hd'.fr) ∧ W.cell? ⟨b', off' + i * 9 + 8, none⟩ = some (.int .i64 hd'.en))) := fun W hq => ⟨(HB.out W (HQ.out.trans hq)).1, (HB.out W (HQ.out.trans hq)).2, hc9.fr (hq0r.trans hq) (fun h => h), hc9'.fr (hq0r.trans hq) (fun h => h)⟩
        have HAR1 : Hid (∀ W, Quiet0 wr W → Calls Tryd.prog 41 #[tmv h o1 l1 c1 (some ⟨b, off, none⟩) l2 c2, .int .i64 (i : Nat), .slice no nn nc] W (NmPost T W (envOf h.k h.nm i x))) := fun W hq => around_any h o1 l1 c1 _ l2 c2 i T x no nn nc W (HN.out.stay (hq0r.trans hq)) (by omega)
        have HAR2 : Hid (∀ W, Quiet0 wr W → Calls Tryd.prog 41 #[tmv h' p1 m1 d1 (some ⟨b', off', none⟩) l2 d2, .int .i64 (i : Nat), .slice no' nn' nc'] W (NmPost T' W (envOf h'.k h'.nm i y))) := fun W hq => around_any h' p1 m1 d1 _ l2 d2 i T' y no' nn' nc' W (HN'.out.stay (hq0r.trans hq)) (by omega)
        have henv : (envOf h.k h.nm i x).length ≤ nn + 1 := by have := HNL.out; unfold envOf; split <;> simp <;> omega
        have henv' : (envOf h'.k h'.nm i y).length ≤ nn' + 1 := by have := HNL'.out; unfold envOf; split <;> simp <;> omega
        have HFR : Hid (∀ (W : World) (T T' : Nat → Prop) (no : Option Addr) (nc : Nat) (no' : Option Addr) (nc' : Nat), NmIn T W no (envOf h.k h.nm i x).length (envOf h.k h.nm i x) → NmIn T' W no' (envOf h'.k h'.nm i y).length (envOf h'.k h'.nm i y) → Quiet0 wr W → Calls Tryd.prog 24 #[tmv hd p3 m3 d3 p4 m4 d4, tmv hd' p5 m5 d5 p6 m6 d6, .slice no (envOf h.k h.nm i x).length nc, .slice no' (envOf h'.k h'.nm i y).length nc'] W (fun e w' => e = .returned (.bool (refA1 (envOf h.k h.nm i x) (envOf h'.k h'.nm i y) hd qs hd' qs')) ∧ Quiet0 W w')) := fun W T T' no nc no' nc' hN hN' hq => IH.out i hd qs hg hd' qs' W R T T' p3 m3 d3 p4 m4 d4 p5 m5 d5 p6 m6 d6 no _ nc _ no' _ nc' _ (hs3.stay (hq0r.trans hq)) (ht3.stay (hq0r.trans hq)) (hs5.stay (hq0r.trans hq)) (ht5.stay (hq0r.trans hq)) hN hN' (by omega) (by omega)
        have HD : Hid ((refA1 (envOf h.k h.nm i x) (envOf h'.k h'.nm i y) hd qs hd' qs' && refAR h.k h.nm h'.k h'.nm (i + 1) x y (ps.drop (i + 1)) (ps'.drop (i + 1))) = RES) := by
          have := HPE.out; rw [hd1, hd1', refAR_cons] at this; exact this
        unfold tmv at HAR1 HAR2 HFR
        generalize envOf h.k h.nm i x = E at *
        generalize envOf h'.k h'.nm i y = E' at *
        generalize refA1 E E' hd qs hd' qs' = rb at *
        clear hd1 hd1' hg hg' hs3 ht3 hs5 ht5 hsq hc9 hc9' henv henv'
        go_upto_region 11 with fail
        clear a0 a1 a2 a3 a4 a5 a6 a7 a8 b0 b1 b2 b3 b4 b5 b6 b7 b8
        have hqc := Quiet0.refl wr
        go_region_held3 (fun W => (W.cell? ⟨nb, 0, none⟩ = some (.int .i64 h.k) ∧ W.cell? ⟨nb, 1, none⟩ = some (.string h.nm) ∧ W.cell? ⟨nb, 2, none⟩ = some (.int .i64 h.n) ∧ W.cell? ⟨nb, 3, none⟩ = some (.int .i64 h.tk) ∧ W.cell? ⟨nb, 4, none⟩ = some (.int .i64 h.tn) ∧ W.cell? ⟨nb, 5, none⟩ = some (.slice o1 l1 c1) ∧ W.cell? ⟨nb, 6, none⟩ = some (.slice (some ⟨b, off, none⟩) l2 c2) ∧ W.cell? ⟨nb, 7, none⟩ = some (.int .i64 h.fr) ∧ W.cell? ⟨nb, 8, none⟩ = some (.int .i64 h.en)) ∧ (W.cell? ⟨nb + 1, 0, none⟩ = some (.int .i64 h'.k) ∧ W.cell? ⟨nb + 1, 1, none⟩ = some (.string h'.nm) ∧ W.cell? ⟨nb + 1, 2, none⟩ = some (.int .i64 h'.n) ∧ W.cell? ⟨nb + 1, 3, none⟩ = some (.int .i64 h'.tk) ∧ W.cell? ⟨nb + 1, 4, none⟩ = some (.int .i64 h'.tn) ∧ W.cell? ⟨nb + 1, 5, none⟩ = some (.slice p1 m1 d1) ∧ W.cell? ⟨nb + 1, 6, none⟩ = some (.slice (some ⟨b', off', none⟩) l2 d2) ∧ W.cell? ⟨nb + 1, 7, none⟩ = some (.int .i64 h'.fr) ∧ W.cell? ⟨nb + 1, 8, none⟩ = some (.int .i64 h'.en)) ∧ (W.cell? ⟨b, off + i * 9, none⟩ = some (.int .i64 hd.k) ∧ W.cell? ⟨b, off + i * 9 + 1, none⟩ = some (.string hd.nm) ∧ W.cell? ⟨b, off + i * 9 + 2, none⟩ = some (.int .i64 hd.n) ∧ W.cell? ⟨b, off + i * 9 + 3, none⟩ = some (.int .i64 hd.tk) ∧ W.cell? ⟨b, off + i * 9 + 4, none⟩ = some (.int .i64 hd.tn) ∧ W.cell? ⟨b, off + i * 9 + 5, none⟩ = some (.slice p3 m3 d3) ∧ W.cell? ⟨b, off + i * 9 + 6, none⟩ = some (.slice p4 m4 d4) ∧ W.cell? ⟨b, off + i * 9 + 7, none⟩ = some (.int .i64 hd.fr) ∧ W.cell? ⟨b, off + i * 9 + 8, none⟩ = some (.int .i64 hd.en)) ∧ (W.cell? ⟨b', off' + i * 9, none⟩ = some (.int .i64 hd'.k) ∧ W.cell? ⟨b', off' + i * 9 + 1, none⟩ = some (.string hd'.nm) ∧ W.cell? ⟨b', off' + i * 9 + 2, none⟩ = some (.int .i64 hd'.n) ∧ W.cell? ⟨b', off' + i * 9 + 3, none⟩ = some (.int .i64 hd'.tk) ∧ W.cell? ⟨b', off' + i * 9 + 4, none⟩ = some (.int .i64 hd'.tn) ∧ W.cell? ⟨b', off' + i * 9 + 5, none⟩ = some (.slice p5 m5 d5) ∧ W.cell? ⟨b', off' + i * 9 + 6, none⟩ = some (.slice p6 m6 d6) ∧ W.cell? ⟨b', off' + i * 9 + 7, none⟩ = some (.int .i64 hd'.fr) ∧ W.cell? ⟨b', off' + i * 9 + 8, none⟩ = some (.int .i64 hd'.en)))
          (((refine HKP.out _ ?_); (repeat (first | with_reducible exact hqc | with_reducible exact Quiet0.refl _ | with_reducible refine Quiet0.trans ?_ (Quiet0.alloc _ _) | with_reducible refine Quiet0.trans ?_ (Quiet0.drew _) | fail))))
          (first
            | (go_at_call 41; (with_reducible refine Calls.mono (HAR1.out _ ?hq) ?_); (case hq => (repeat (first | with_reducible exact hqc | with_reducible exact Quiet0.refl _ | with_reducible refine Quiet0.trans ?_ (Quiet0.alloc _ _) | with_reducible refine Quiet0.trans ?_ (Quiet0.drew _) | fail))); rintro e wx ⟨no2, nc2, rfl, hn1, hqx⟩; (try (refine with_nm hn2 ?hq3 hqx ?_; (case hq3 => (repeat (first | with_reducible exact Quiet0.refl _ | with_reducible refine Quiet0.trans ?_ (Quiet0.alloc _ _) | with_reducible refine Quiet0.trans ?_ (Quiet0.drew _) | fail))); intro hn2)); (refine with_q (w0 := wr) ?hq2 hqx ?_); (case hq2 => (repeat (first | with_reducible exact hqc | with_reducible exact Quiet0.refl _ | with_reducible refine Quiet0.trans ?_ (Quiet0.alloc _ _) | with_reducible refine Quiet0.trans ?_ (Quiet0.drew _) | fail))); intro hqc)
            | (go_at_call 41; (with_reducible refine Calls.mono (HAR2.out _ ?hq) ?_); (case hq => (repeat (first | with_reducible exact hqc | with_reducible exact Quiet0.refl _ | with_reducible refine Quiet0.trans ?_ (Quiet0.alloc _ _) | with_reducible refine Quiet0.trans ?_ (Quiet0.drew _) | fail))); rintro e wx ⟨no3, nc3, rfl, hn2, hqx⟩; (try (refine with_nm hn1 ?hq3 hqx ?_; (case hq3 => (repeat (first | with_reducible exact Quiet0.refl _ | with_reducible refine Quiet0.trans ?_ (Quiet0.alloc _ _) | with_reducible refine Quiet0.trans ?_ (Quiet0.drew _) | fail))); intro hn1)); (refine with_q (w0 := wr) ?hq2 hqx ?_); (case hq2 => (repeat (first | with_reducible exact hqc | with_reducible exact Quiet0.refl _ | with_reducible refine Quiet0.trans ?_ (Quiet0.alloc _ _) | with_reducible refine Quiet0.trans ?_ (Quiet0.drew _) | fail))); intro hqc)
            | ((go_at_call 24; (with_reducible refine Calls.mono (HFR.out _ _ _ _ _ _ _ (hn1.stay ?hq3) (hn2.stay ?hq4) ?hq) ?_)); (case hq3 => (repeat (first | with_reducible exact Quiet0.refl _ | with_reducible refine Quiet0.trans ?_ (Quiet0.alloc _ _) | with_reducible refine Quiet0.trans ?_ (Quiet0.drew _) | fail))); (case hq4 => (repeat (first | with_reducible exact Quiet0.refl _ | with_reducible refine Quiet0.trans ?_ (Quiet0.alloc _ _) | with_reducible refine Quiet0.trans ?_ (Quiet0.drew _) | fail))); (case hq => (repeat (first | with_reducible exact hqc | with_reducible exact Quiet0.refl _ | with_reducible refine Quiet0.trans ?_ (Quiet0.alloc _ _) | with_reducible refine Quiet0.trans ?_ (Quiet0.drew _) | fail))); rintro e wx ⟨rfl, hqx⟩; (refine with_q (w0 := wr) ?hq2 hqx ?_); (case hq2 => (repeat (first | with_reducible exact hqc | with_reducible exact Quiet0.refl _ | with_reducible refine Quiet0.trans ?_ (Quiet0.alloc _ _) | with_reducible refine Quiet0.trans ?_ (Quiet0.drew _) | fail))); intro hqc)
            | fail)
        all_goals
          have HQ3 : Hid (Quiet0 W0 _) := HQ.out.trans hqc
          clear hqc hqx hn1 hn2
          cases rb
          · have HE : Hid (RES = false) := by show _ = _; rw [← HD.out]; rfl
            go_wp2_with fail
            go_ret
            exact ⟨by rw [HE.out]; rfl, HQ0.out.trans HQ3.out⟩
          · have HE : Hid (refAR h.k h.nm h'.k h'.nm (i + 1) x y (ps.drop (i + 1)) (ps'.drop (i + 1)) = RES) := by show _ = _; rw [← HD.out]; rfl
            go_wp2_with fail
            go_roundw
            case rel => exact ⟨i + 1, rfl, by go_num, by omega, HE.out, HQ3.out⟩
            case measure => simp [intOf]; omega
      · have hlt' : ¬ (i : Int) < l2 := by omega
        have HE : Hid (RES = true) := by
          have := HPE.out
          rw [To.drop_end ps i (by have := HL.out; omega), To.drop_end ps' i (by have := HL'.out; omega)] at this
          show _ = _
          rw [← this]; rfl
        go_wp2_with fail
        go_ret
        exact ⟨by rw [HE.out]; rfl, HQ0.out.trans HQ.out⟩
end Sc
end Go.Proofs.YtnfodiedalhlhaaDoor
end
