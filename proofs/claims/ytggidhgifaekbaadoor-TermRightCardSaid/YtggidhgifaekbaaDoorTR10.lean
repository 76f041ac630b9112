/-
  Texts laid together (TeOpen, TeAppliesLaw, TyRefVars0, TyRefVars, TyRefVars2, TeRSound, TeRSound1): what each one proves, and its conditions, stands at its head.
-/
import Derived.Deep.AppendLies
import Derived.Test.YtggidhgifaekbaaDoorTR1
import Derived.Test.YtggidhgifaekbaaDoorTR2
import Derived.Test.YtggidhgifaekbaaDoorTR3
import Derived.Test.YtggidhgifaekbaaDoorTR4
import Derived.Test.YtggidhgifaekbaaDoorTR5
import Derived.Test.YtggidhgifaekbaaDoorTR6
import Derived.Test.YtggidhgifaekbaaDoorTR7
import Derived.Test.YtggidhgifaekbaaDoorTR8
import Derived.Test.YtggidhgifaekbaaDoorTR9
section
/-
  Terms that came in as arguments: rows of terms, however deep. No condition.
-/
namespace Go.Proofs.YtggidhgifaekbaaDoor
open Go.ChangeShapes Go.WideShapes Go.ChangeAt Go.RowKit

theorem At.atIn {w : World} : ∀ (f : Fo) (b off : Nat), At w b off f → AtIn (fun k => k < w.heap.size) w b off f
  | .nil, _, _, _ => trivial
  | .cons k n ps r, b, off, h => by
    obtain ⟨h1, h2, ⟨o, l, c, h3, h4, h5, h6⟩, h7⟩ := h
    refine ⟨World.block_lt_of_cell? w _ h1, h1, h2, ⟨o, l, c, h3, h4, h5, fun hl => ?_⟩, At.atIn r b (off + 3) h7⟩
    obtain ⟨b', off', ho, ha⟩ := h6 hl
    exact ⟨b', off', ho, At.atIn ps b' off' ha⟩
theorem Slc.slcIn {w : World} {o : Option Addr} {len : Nat} {f : Fo} (h : Slc w o len f) : SlcIn (fun k => k < w.heap.size) w o len f := by
  refine ⟨h.1, h.2.1, fun hl => ?_⟩
  obtain ⟨b, off, ho, ha⟩ := h.2.2 hl
  exact ⟨b, off, ho, ha.atIn⟩
/-- what an argument's head is sure to be -/
def OkO (h : Nd) : Prop := h.nm.size ≤ maxLen ∧ wfI h.tn ∧ wfF h.tp ∧ wfI h.n
section
variable {H : Type} {enc : TypeId × Value → H} {P : Program} {w : World} {base : Nat} {spare : Nat → Bool} {held : Bool}
abbrev Low (w : World) : Nat → Prop := fun k => k < w.heap.size
theorem tin_of_cells {b off len : Nat} (hb : Low w b) (one : ∀ i, i < len → ∃ hd ps o1 l1 c1 o2 l2 c2, Cells9 w b (off + i * 9) hd o1 l1 c1 o2 l2 c2 ∧ SlcIn (Low w) w o1 l1 hd.tp ∧ TSlc (Low w) w o2 l2 ps ∧ OkO hd ∧ allT OkO ps) :
    ∀ m s, s + m = len → ∃ f : To, f.length = m ∧ TIn (Low w) w b (off + s * 9) f ∧ allT OkO f
  | 0, s, _ => ⟨.nil, rfl, trivial, trivial⟩
  | m + 1, s, h => by
    obtain ⟨hd, ps, o1, l1, c1, o2, l2, c2, hc, hs1, hs2, hw, hwp⟩ := one s (by omega)
    obtain ⟨r, hr, ha, hwr⟩ := tin_of_cells hb one m (s + 1) (by omega)
    refine ⟨.cons hd ps r, by simp [To.length, hr], ⟨hb, ⟨o1, l1, c1, o2, l2, c2, hc, hs1, hs2.1, hs2.2.1, hs2.2.2⟩, ?_⟩, hw, hwp, hwr⟩
    rw [show off + s * 9 + 9 = off + (s + 1) * 9 from by omega]
    exact ha
/-- one term's cells, its parts given -/
theorem open_t9 {te : TypeId} {f0 f1 f2 f3 f4 f5 g0 g1 q0 q1 q2 : Field} (he : P.underlying te = some (.struct #[f0, f1, f2, f3, f4, f5])) (ce : P.cellsOf te = 9)
    (o0 : f0.offset = 0) (o1 : f1.offset = 1) (o2 : f2.offset = 2) (o3 : f3.offset = 3) (o4 : f4.offset = 6) (o5 : f5.offset = 7)
    (c0 : P.cellsOf f0.type = 1) (c1 : P.cellsOf f1.type = 1) (c2 : P.cellsOf f2.type = 1) (c3 : P.cellsOf f3.type = 3) (c4 : P.cellsOf f4.type = 1) (c5 : P.cellsOf f5.type = 2)
    (k0 : P.underlying f0.type = some (.int .i64)) (k1 : P.underlying f1.type = some .string) (k2 : P.underlying f2.type = some (.int .i64))
    (k5 : P.underlying f5.type = some (.struct #[g0, g1])) (p0 : g0.offset = 0) (p1 : g1.offset = 1) (d0 : P.cellsOf g0.type = 1) (d1 : P.cellsOf g1.type = 1) (m0 : P.underlying g0.type = some (.int .i64)) (m1 : P.underlying g1.type = some (.int .i64))
    (k3 : P.underlying f3.type = some (.struct #[q0, q1, q2])) (v0 : q0.offset = 0) (v1 : q1.offset = 1) (v2 : q2.offset = 2) (x0 : P.cellsOf q0.type = 1) (x1 : P.cellsOf q1.type = 1) (x2 : P.cellsOf q2.type = 1) (y0 : P.underlying q0.type = some (.int .i64)) (y1 : P.underlying q1.type = some (.int .i64)) (y2 : P.underlying q2.type = some (.slice f3.type))
    {n : Nat} (ih : ∀ m, m < n → ∀ cs x, DataW.trod enc P w base spare held m f4.type cs = some x → ∃ o len cap f, cs = [.slice o len cap] ∧ TSlc (Low w) w o len f ∧ allT OkO f)
    {cs : List Value} {x : DataW H × List MemPlace} (h : DataW.trod enc P w base spare held n te cs = some x) :
    ∃ hd ps o1 l1 c1 o2 l2 c2, cs = (cells9 hd o1 l1 c1 o2 l2 c2).toList ∧ SlcIn (Low w) w o1 l1 hd.tp ∧ TSlc (Low w) w o2 l2 ps ∧ OkO hd ∧ allT OkO ps := by
  obtain ⟨xs, n', hn', _, hcl, hxl, hfx⟩ := DataW.trod_struct he h
  rw [ce] at hcl
  match cs, hcl with
  | [u0, u1, u2, u3, u4, u5, u6, u7, u8], _ =>
    have hxl6 : xs.length = 6 := by simpa using hxl
    have s0 := hfx 0 f0 rfl
    have s1 := hfx 1 f1 rfl
    have s2 := hfx 2 f2 rfl
    have s3 := hfx 3 f3 rfl
    have s4 := hfx 4 f4 rfl
    have s5 := hfx 5 f5 rfl
    rw [c0, o0, show xs[0]? = some (xs[0]'(by omega)) from by simp [hxl6]] at s0
    rw [c1, o1, show xs[1]? = some (xs[1]'(by omega)) from by simp [hxl6]] at s1
    rw [c2, o2, show xs[2]? = some (xs[2]'(by omega)) from by simp [hxl6]] at s2
    rw [c3, o3, show xs[3]? = some (xs[3]'(by omega)) from by simp [hxl6]] at s3
    rw [c4, o4, show xs[4]? = some (xs[4]'(by omega)) from by simp [hxl6]] at s4
    rw [c5, o5, show xs[5]? = some (xs[5]'(by omega)) from by simp [hxl6]] at s5
    obtain ⟨z0, hz0, _, hw0⟩ := DataW.trod_int k0 s0
    obtain ⟨z1, hz1, _, hw1⟩ := DataW.trod_string k1 s1
    obtain ⟨z2, hz2, _, hw2⟩ := DataW.trod_int k2 s2
    obtain ⟨tk, tn, tO, tl, tc, tf, hz3, hts, hwt, hwf⟩ := open_agg k3 c3 v0 v1 v2 x0 x1 x2 y0 y1 y2 s3
    obtain ⟨o, l, c, ps, hz4, hps, hwp⟩ := ih n' (by omega) _ _ s4
    obtain ⟨ys, n2, hn2, _, hyc, hyl, hgy⟩ := DataW.trod_struct k5 s5
    have hyl2 : ys.length = 2 := by simpa using hyl
    have t0 := hgy 0 g0 rfl
    have t1 := hgy 1 g1 rfl
    rw [d0, p0, show ys[0]? = some (ys[0]'(by omega)) from by simp [hyl2]] at t0
    rw [d1, p1, show ys[1]? = some (ys[1]'(by omega)) from by simp [hyl2]] at t1
    obtain ⟨z7, hz7, _, _⟩ := DataW.trod_int m0 t0
    obtain ⟨z8, hz8, _, _⟩ := DataW.trod_int m1 t1
    simp at hz0 hz1 hz2 hz3 hz4 hz7 hz8
    obtain ⟨hz3, hz3', hz3''⟩ := hz3
    refine ⟨⟨z0, z1, z2, tk, tn, tf, z7, z8⟩, ps, tO, tl, tc, o, l, c, ?_, hts.slcIn, hps, ⟨hw1, hwt, hwf, hw2⟩, hwp⟩
    subst hz0 hz1 hz2 hz3 hz3' hz3'' hz4 hz7 hz8
    rfl
theorem open_tparts {te : TypeId} {f0 f1 f2 f3 f4 f5 g0 g1 q0 q1 q2 : Field} (he : P.underlying te = some (.struct #[f0, f1, f2, f3, f4, f5])) (ce : P.cellsOf te = 9)
    (o0 : f0.offset = 0) (o1 : f1.offset = 1) (o2 : f2.offset = 2) (o3 : f3.offset = 3) (o4 : f4.offset = 6) (o5 : f5.offset = 7)
    (c0 : P.cellsOf f0.type = 1) (c1 : P.cellsOf f1.type = 1) (c2 : P.cellsOf f2.type = 1) (c3 : P.cellsOf f3.type = 3) (c4 : P.cellsOf f4.type = 1) (c5 : P.cellsOf f5.type = 2)
    (k0 : P.underlying f0.type = some (.int .i64)) (k1 : P.underlying f1.type = some .string) (k2 : P.underlying f2.type = some (.int .i64)) (k4 : P.underlying f4.type = some (.slice te))
    (k5 : P.underlying f5.type = some (.struct #[g0, g1])) (p0 : g0.offset = 0) (p1 : g1.offset = 1) (d0 : P.cellsOf g0.type = 1) (d1 : P.cellsOf g1.type = 1) (m0 : P.underlying g0.type = some (.int .i64)) (m1 : P.underlying g1.type = some (.int .i64))
    (k3 : P.underlying f3.type = some (.struct #[q0, q1, q2])) (v0 : q0.offset = 0) (v1 : q1.offset = 1) (v2 : q2.offset = 2) (x0 : P.cellsOf q0.type = 1) (x1 : P.cellsOf q1.type = 1) (x2 : P.cellsOf q2.type = 1) (y0 : P.underlying q0.type = some (.int .i64)) (y1 : P.underlying q1.type = some (.int .i64)) (y2 : P.underlying q2.type = some (.slice f3.type)) :
    ∀ (fuel : Nat) (cs : List Value) (x : DataW H × List MemPlace), DataW.trod enc P w base spare held fuel f4.type cs = some x → ∃ o len cap f, cs = [.slice o len cap] ∧ TSlc (Low w) w o len f ∧ allT OkO f := by
  intro fuel
  induction fuel using Nat.strongRecOn with
  | _ fuel ih =>
  intro cs x h
  rcases DataW.trod_slice k4 h with ⟨rfl, _⟩ | ⟨a, len, cap, elems, rest, n, hfu, rfl, _, _, hl, hm, hlen, hel, _⟩
  · exact ⟨_, _, _, .nil, rfl, TSlc.nil _ _ _, trivial⟩
  · have one : ∀ i, i < len → ∃ hd ps o1 l1 c1 o2 l2 c2, (∀ j, j < 9 → w.cell? (a.add (i * 9 + j)) = (cells9 hd o1 l1 c1 o2 l2 c2).toList[j]?) ∧ SlcIn (Low w) w o1 l1 hd.tp ∧ TSlc (Low w) w o2 l2 ps ∧ OkO hd ∧ allT OkO ps := by
      intro i hi
      have h1 := hel i hi
      rw [List.getElem?_eq_getElem (by omega)] at h1
      obtain ⟨cs', h2, h3⟩ := Option.bind_eq_some_iff.1 h1
      rw [ce] at h2
      obtain ⟨_, hcl, hcell⟩ := World.cells?_some h2
      obtain ⟨hd, ps, r1, l1, e1, r2, l2, e2, rfl, hs1, hs2, hw, hwp⟩ := open_t9 he ce o0 o1 o2 o3 o4 o5 c0 c1 c2 c3 c4 c5 k0 k1 k2 k5 p0 p1 d0 d1 m0 m1 k3 v0 v1 v2 x0 x1 x2 y0 y1 y2 (fun m hm cs x => ih m (by omega) cs x) h3
      refine ⟨hd, ps, r1, l1, e1, r2, l2, e2, ?_, hs1, hs2, hw, hwp⟩
      intro j hj
      rw [← Deep.add_add]
      exact hcell j hj
    by_cases h0 : len = 0
    · subst h0
      exact ⟨_, _, _, .nil, rfl, TSlc.nil _ _ _, trivial⟩
    · obtain ⟨hd, ps, r1, l1, e1, r2, l2, e2, h1, _⟩ := one 0 (by omega)
      have h1' := h1 0 (by omega)
      rw [Nat.zero_mul] at h1'
      obtain ⟨b, off, rfl⟩ := spot_none (v := .int .i64 hd.k) h1'
      have hb : Low w b := World.block_lt_of_cell? w (⟨b, off + 0, none⟩ : Addr) (show w.cell? ⟨b, off + 0, none⟩ = some (.int .i64 hd.k) from h1')
      obtain ⟨f, hf, hA, hwf⟩ := tin_of_cells (b := b) (off := off) (len := len) (w := w) hb (fun i hi => by
        obtain ⟨hd, ps, r1, l1, e1, r2, l2, e2, h1, h4⟩ := one i hi
        refine ⟨hd, ps, r1, l1, e1, r2, l2, e2, ?_, h4⟩
        have g := fun j hj => h1 j hj
        simp only [Addr.add_lit] at g
        exact ⟨g 0 (by omega), g 1 (by omega), g 2 (by omega), g 3 (by omega), g 4 (by omega), g 5 (by omega), g 6 (by omega), g 7 (by omega), g 8 (by omega)⟩) len 0 (by omega)
      rw [Nat.zero_mul, Nat.add_zero] at hA
      exact ⟨_, _, _, f, rfl, ⟨hf.symm, by omega, fun _ => ⟨b, off, rfl, hA⟩⟩, hwf⟩
end
section
variable {H : Type} {enc : TypeId × Value → H} {w : World} {base : Nat} {spare : Nat → Bool} {held : Bool}
/-- an argument that is a row of terms -/
theorem open_terms {v : Value} {d : DataW H} {p : List MemPlace} (hv : ∃ a len cap, v = .slice a len cap) (h : DataW.Trod enc Tryd.prog w base spare held 31 v d p) : ∃ o n c f, v = .slice o n c ∧ TSlc (Low w) w o n f ∧ allT OkO f ∧ n ≤ c := by
  obtain ⟨a0, l0, cc0, rfl⟩ := hv
  obtain ⟨fuel, hf⟩ := h
  have hlc : l0 ≤ cc0 := by
    rcases DataW.trod_slice Tryd.underlying31 hf with ⟨he, _⟩ | ⟨a, len, cap, _, _, _, _, he, _, _, hl, _⟩
    · simp [Value.cells] at he; omega
    · simp [Value.cells] at he; omega
  obtain ⟨o, n, c, f, he, hs, hw⟩ := open_tparts Tryd.underlying35 (by kernel_rfl) rfl rfl rfl rfl rfl rfl (by kernel_rfl) (by kernel_rfl) (by kernel_rfl) (by kernel_rfl) (by kernel_rfl) (by kernel_rfl) Tryd.underlying3 Tryd.underlying9 Tryd.underlying3 Tryd.underlying31 Tryd.underlying33 rfl rfl (by kernel_rfl) (by kernel_rfl) Tryd.underlying3 Tryd.underlying3 Tryd.underlying24 rfl rfl rfl (by kernel_rfl) (by kernel_rfl) (by kernel_rfl) Tryd.underlying3 Tryd.underlying3 Tryd.underlying22 fuel _ _ hf
  simp [Value.cells] at he
  obtain ⟨rfl, rfl, rfl⟩ := he
  exact ⟨_, _, _, f, rfl, hs, hw, hlc⟩
/-- an argument that is a term -/
theorem open_term {v : Value} {d : DataW H} {p : List MemPlace} (hv : ∃ cs, v = .agg cs ∧ cs.size = Tryd.prog.cellsOf 35) (h : DataW.Trod enc Tryd.prog w base spare held 35 v d p) : ∃ hd ps o1 l1 c1 o2 l2 c2, v = tmv hd o1 l1 c1 o2 l2 c2 ∧ SlcIn (Low w) w o1 l1 hd.tp ∧ TSlc (Low w) w o2 l2 ps ∧ OkO hd ∧ allT OkO ps := by
  obtain ⟨cs, rfl, _⟩ := hv
  obtain ⟨fuel, hf⟩ := h
  obtain ⟨hd, ps, o1, l1, c1, o2, l2, c2, he, h1, h2, h3, h4⟩ := open_t9 Tryd.underlying35 (by kernel_rfl) rfl rfl rfl rfl rfl rfl (by kernel_rfl) (by kernel_rfl) (by kernel_rfl) (by kernel_rfl) (by kernel_rfl) (by kernel_rfl) Tryd.underlying3 Tryd.underlying9 Tryd.underlying3 Tryd.underlying33 rfl rfl (by kernel_rfl) (by kernel_rfl) Tryd.underlying3 Tryd.underlying3 Tryd.underlying24 rfl rfl rfl (by kernel_rfl) (by kernel_rfl) (by kernel_rfl) Tryd.underlying3 Tryd.underlying3 Tryd.underlying22
    (fun m _ cs x hh => open_tparts Tryd.underlying35 (by kernel_rfl) rfl rfl rfl rfl rfl rfl (by kernel_rfl) (by kernel_rfl) (by kernel_rfl) (by kernel_rfl) (by kernel_rfl) (by kernel_rfl) Tryd.underlying3 Tryd.underlying9 Tryd.underlying3 Tryd.underlying31 Tryd.underlying33 rfl rfl (by kernel_rfl) (by kernel_rfl) Tryd.underlying3 Tryd.underlying3 Tryd.underlying24 rfl rfl rfl (by kernel_rfl) (by kernel_rfl) (by kernel_rfl) Tryd.underlying3 Tryd.underlying3 Tryd.underlying22 m cs x hh) hf
  refine ⟨hd, ps, o1, l1, c1, o2, l2, c2, ?_, h1, h2, h3, h4⟩
  unfold tmv
  congr 1
  apply Array.toList_inj.1
  simpa [Value.cells] using he
end
end Go.Proofs.YtggidhgifaekbaaDoor
end
section
/-
  The law TermApplies: it returns true. Conditions: the terms lie in memory as told; the table of blanks holds what its initialiser lays.
-/
namespace Go.Proofs.YtggidhgifaekbaaDoor
open Go.RowKit Go.Shelf

theorem headB_refl (all : Bool) (h : Nd) : headB all h h = true := by
  unfold headB sameT
  cases all <;> simp [Fo.same_refl]
theorem alikeT_refl (all : Bool) (h : Nd) (ps : To) : alikeT all h ps h ps = true := by
  unfold alikeT
  rw [headB_refl, To.alike_refl (headB_refl all)]; rfl
/-- the law's loop is at its head: what it wants lies in its box -/
structure TlRel (B : Nat) (W0 wr : World) (g : Nd) (gs : To) : Prop where
  box : ∃ p1 m1 d1 p2 m2 d2, wr.heap[B]? = some (.cells (cells9 g p1 m1 d1 p2 m2 d2) 35 (0, 0)) ∧ SlcIn (fun k => k ≠ B) wr p1 m1 g.tp ∧ TSlc (fun k => k ≠ B) wr p2 m2 gs
  fr : Fr (fun k => k = B) W0 wr
theorem TlRel.first {B : Nat} {W0 wr : World} {hd : Nd} {qs : To} {u1 : Option Addr} {v1 t1 : Nat} {u2 : Option Addr} {v2 t2 : Nat} (hf : Fr (fun k => k = B) W0 wr)
    {b0 b1 b2 b3 b4 b5 b6 b7 b8 : Value} (hb : wr.heap[B]? = some (.cells #[b0, b1, b2, b3, b4, b5, b6, b7, b8] 35 (0, 0))) (h1 : SlcIn (fun k => k ≠ B) wr u1 v1 hd.tp) (h2 : TSlc (fun k => k ≠ B) wr u2 v2 qs) :
    TlRel B W0 (put9 wr B (.int .i64 hd.k) (.string hd.nm) (.int .i64 hd.n) (.int .i64 hd.tk) (.int .i64 hd.tn) (.slice u1 v1 t1) (.slice u2 v2 t2) (.int .i64 hd.fr) (.int .i64 hd.en)) hd qs :=
  ⟨⟨u1, v1, t1, u2, v2, t2, put9_block hb, h1.fr (put9_fr _ _ _ _ _ _ _ _ _ _ _) (fun _ _ h => ⟨h, h⟩), h2.fr (put9_fr _ _ _ _ _ _ _ _ _ _ _) (fun _ _ h => ⟨h, h⟩)⟩, hf.trans (put9_fr _ _ _ _ _ _ _ _ _ _ _)⟩
theorem TlRel.next {B : Nat} {W0 wr : World} {g hd : Nd} {gs qs : To} {p1 : Option Addr} {m1 d1 : Nat} {p2 : Option Addr} {m2 d2 : Nat} {u1 : Option Addr} {v1 t1 : Nat} {u2 : Option Addr} {v2 t2 : Nat} (hf : Fr (fun k => k = B) W0 wr)
    (hb : wr.heap[B]? = some (.cells (cells9 g p1 m1 d1 p2 m2 d2) 35 (0, 0))) (hp1 : SlcIn (fun k => k ≠ B) wr p1 m1 g.tp) (hp2 : TSlc (fun k => k ≠ B) wr p2 m2 gs) (h1 : SlcIn (fun k => k ≠ B) wr u1 v1 hd.tp) (h2 : TSlc (fun k => k ≠ B) wr u2 v2 qs) :
    TlRel B W0 ((put9 wr B (.int .i64 5) (.string ⟨#[]⟩) (.int .i64 0) (.int .i64 0) (.int .i64 0) (.slice none 0 0) (.slice (some ⟨wr.heap.size, 0, none⟩) 2 2) (.int .i64 0) (.int .i64 0)).alloc (.cells (cells18 g p1 m1 d1 p2 m2 d2 hd u1 v1 t1 u2 v2 t2) 35)) appNd (.cons g gs (.cons hd qs .nil)) := by
  have hput := put9_fr wr B (.int .i64 5) (.string ⟨#[]⟩) (.int .i64 0) (.int .i64 0) (.int .i64 0) (.slice none 0 0) (.slice (some ⟨wr.heap.size, 0, none⟩) 2 2) (.int .i64 0) (.int .i64 0)
  have hbl := put9_block (a0 := .int .i64 5) (a1 := .string ⟨#[]⟩) (a2 := .int .i64 0) (a3 := .int .i64 0) (a4 := .int .i64 0) (a5 := .slice none 0 0) (a6 := .slice (some ⟨wr.heap.size, 0, none⟩) 2 2) (a7 := .int .i64 0) (a8 := .int .i64 0) hb
  have hsz := put9_size wr B (.int .i64 5) (.string ⟨#[]⟩) (.int .i64 0) (.int .i64 0) (.int .i64 0) (.slice none 0 0) (.slice (some ⟨wr.heap.size, 0, none⟩) 2 2) (.int .i64 0) (.int .i64 0)
  generalize (put9 wr B (.int .i64 5) (.string ⟨#[]⟩) (.int .i64 0) (.int .i64 0) (.int .i64 0) (.slice none 0 0) (.slice (some ⟨wr.heap.size, 0, none⟩) 2 2) (.int .i64 0) (.int .i64 0)) = wp at *
  have hnew := heap_alloc_new wp (.cells (cells18 g p1 m1 d1 p2 m2 d2 hd u1 v1 t1 u2 v2 t2) 35)
  rw [hsz] at hnew
  have hl3 := lt_of_block hb
  have ha := Quiet0.alloc wp (.cells (cells18 g p1 m1 d1 p2 m2 d2 hd u1 v1 t1 u2 v2 t2) 35)
  refine ⟨⟨none, 0, 0, some ⟨wr.heap.size, 0, none⟩, 2, 2, ?_, SlcIn.nil _ _ _, ?_⟩, ?_⟩
  · rw [Below.heap_alloc _ _ _ (by rw [hsz]; exact hl3)]; exact hbl
  · refine slc9two hnew (by omega) ?_ ?_ ?_ ?_
    · exact (hp1.fr hput (fun k _ h => ⟨h, h⟩)).stay ha
    · exact (hp2.fr hput (fun k _ h => ⟨h, h⟩)).stay ha
    · exact (h1.fr hput (fun k _ h => ⟨h, h⟩)).stay ha
    · exact (h2.fr hput (fun k _ h => ⟨h, h⟩)).stay ha
  · exact (hf.trans hput).trans ha.fr
theorem TlRel.drew {B : Nat} {W0 wr : World} {g : Nd} {gs : To} (h : TlRel B W0 wr g gs) : TlRel B W0 wr.drew g gs := by
  obtain ⟨⟨p1, m1, d1, p2, m2, d2, h1, h2, h3⟩, h4⟩ := h
  exact ⟨⟨p1, m1, d1, p2, m2, d2, blk_drew h1, h2.stay (Quiet0.drew _), h3.stay (Quiet0.drew _)⟩, h4.trans (Fr.drew _ _)⟩
theorem allT_of_get {G : Nd → Prop} : ∀ (f : To), (∀ i h ps, f.get i = some (h, ps) → G h ∧ allT G ps) → allT G f
  | .nil, _ => trivial
  | .cons h ps r, e => ⟨(e 0 h ps rfl).1, (e 0 h ps rfl).2, allT_of_get r (fun i h' ps' g => e (i + 1) h' ps' g)⟩
theorem size_of_get {m : Nat} : ∀ (f : To), (∀ i h ps, f.get i = some (h, ps) → ps.size + 1 ≤ m) → f.size ≤ m * f.length
  | .nil, _ => Nat.zero_le _
  | .cons h ps r, e => by
    have h1 := e 0 h ps rfl
    have h2 := size_of_get r (fun i h' ps' g => e (i + 1) h' ps' g)
    simp only [To.size, To.length, Nat.mul_add]
    omega
theorem get_lt : ∀ (f : To) (i : Nat) (h : Nd) (ps : To), f.get i = some (h, ps) → i < f.length
  | .nil, i, h, ps, e => by simp [To.get] at e
  | .cons _ _ r, 0, h, ps, _ => by simp [To.length]
  | .cons _ _ r, i + 1, h, ps, e => by have := get_lt r i h ps e; simp only [To.length]; omega
set_option maxHeartbeats 8000000 in
set_option maxRecDepth 100000 in
theorem termApplies_all (f : To) (w : World) (o : Option Addr) (n cap : Nat) (hs : TSlc (Low w) w o n f) (hok : allT OkO f) (hcap : n ≤ cap) (ht : Lx.Spaces w) :
    Calls Tryd.prog 5 #[.slice o n cap] w fun e w' => e = .returned (.bool true) ∧ Quiet0 w w' := by
  have HA : Hid (∀ W, Quiet0 w W → Calls Tryd.prog 21 #[] W fun e w' => e = .returned (.bool true) ∧ Quiet0 W w') := fun W hq => awakeT_any W (ht.stay hq)
  by_cases h12 : n ≤ 12
  · have HF := Lib.hid hs.1
    have HOK := Lib.hid hok
    obtain ⟨W0, hW0⟩ : ∃ W0, W0 = w.alloc (.cells zero9 35) := ⟨_, rfl⟩
    have HQ0 : Hid (Quiet0 w W0) := by rw [hW0]; exact Quiet0.alloc _ _
    have HB0 : Hid (W0.heap[w.heap.size]? = some (.cells zero9 35 (0, 0))) := by rw [hW0]; exact heap_alloc_new w _
    have HREL : Hid (TlRel w.heap.size W0 W0 zeroNd .nil) := ⟨⟨none, 0, 0, none, 0, 0, HB0.out, SlcIn.nil _ _ _, TSlc.nil _ _ _⟩, Fr.refl _ _⟩
    have HQW : Hid (∀ W, Fr (fun k => k = w.heap.size) W0 W → Quiet0 w W) := fun W hf => Fr.trans' HQ0.out hf (fun k hk e => by omega)
    have HSW : Hid (∀ W, Quiet0 w W → TSlc (Low w) W o n f) := fun W hq => hs.stay hq
    have HNE : Hid (∀ W, Quiet0 w W → ∀ o l f, SlcIn (Low w) W o l f → SlcIn (fun k => k ≠ w.heap.size) W o l f) := fun W hq o l f h => h.mono (fun k _ hk => by have h' : k < w.heap.size := hk; omega)
    have HNT : Hid (∀ W, Quiet0 w W → ∀ o l f, TSlc (Low w) W o l f → TSlc (fun k => k ≠ w.heap.size) W o l f) := fun W hq o l f h => h.mono (fun k _ hk => by have h' : k < w.heap.size := hk; omega)
    have HAPL : Hid ((∀ i h ps, f.get i = some (h, ps) → greatTm h ps = false) → ∀ W, Quiet0 w W → Calls Tryd.prog 24 #[.slice o n cap] W fun e w' => ∃ p1 m1 d1 p2 m2 d2, e = .returned (tmv (appAll f).1 p1 m1 d1 p2 m2 d2) ∧ SlcIn (fun _ => True) w' p1 m1 (appAll f).1.tp ∧ TSlc (fun _ => True) w' p2 m2 (appAll f).2 ∧ Quiet0 W w') := by
      intro hng W hq
      have hb := allT_of_get (G := fun h => bigH h = false) f (fun i h ps g => ⟨(greatTm_no (hng i h ps g)).1, (greatTm_no (hng i h ps g)).2.1⟩)
      have hz := size_of_get (m := 200) f (fun i h ps g => (greatTm_no (hng i h ps g)).2.2.1)
      rw [← hs.1] at hz
      have hat := allT_mono (H := fun h => h.tp.size ≤ 1000000) (fun h hh => by have := (bigH_no hh).2; omega) f hb
      have hz' : f.size ≤ 1000000 := by have : 200 * n ≤ 200 * 12 := Nat.mul_le_mul_left _ h12; omega
      have h2 := hs.stay hq
      have key : Calls Tryd.prog 24 #[.slice o n cap] W (ApplyPost W f) := by
        cases f with
        | nil => obtain rfl := tslc_nil h2; exact apply_nil W o cap
        | cons h ps r => exact apply_more h ps r W _ o n cap h2 hcap hat hz'
      refine key.mono ?_
      rintro e w' ⟨p1, m1, d1, p2, m2, d2, rfl, h1, h2, hq⟩
      exact ⟨p1, m1, d1, p2, m2, d2, rfl, h1.mono (fun _ _ _ => trivial), h2.mono (fun _ _ _ => trivial), hq⟩
    have hn12 : ¬ (12 : Int) < n := by omega
    clear hs hok ht
    go_enter Tryd.func5, Tryd.ntmps5
    go_upto_region 4 with fail
    change Code.wp _ _ _ _ (w.alloc (.cells zero9 35))
    rw [← hW0]
    clear hW0 hn12
    generalize hB : w.heap.size = B at *
    clear hB
    go_wp2_with fail
    go_loopw [4] (fun t wr => ∃ (i : Nat) (g : Nd) (gs : To), t = .int .i64 i ∧ i ≤ n ∧ ((i = 0 ∧ g = zeroNd ∧ gs = .nil) ∨ (0 < i ∧ foldA g gs (f.drop i) = appAll f)) ∧ (∀ j, j < i → ∀ h ps, f.get j = some (h, ps) → greatTm h ps = false) ∧ TlRel B W0 wr g gs) (fun t _ => n - (intOf t).toNat)
    case atStart => exact ⟨0, zeroNd, .nil, rfl, Nat.zero_le _, .inl ⟨rfl, rfl, rfl⟩, (fun j hj => absurd hj (Nat.not_lt_zero _)), HREL.out⟩
    case round =>
      obtain ⟨i, g, gs, rfl, hi, hfo, hng, hrel⟩ := hrel
      have HFO := Lib.hid hfo
      have HNG := Lib.hid hng
      have HR := Lib.hid hrel
      have HQR := Lib.hid (HQW.out wr hrel.fr)
      clear hfo hng hrel
      by_cases hlt : i < n
      · have hlt' : (i : Int) < n := by omega
        obtain ⟨b5, off5, hd, qs, u1, v1, t1, u2, v2, t2, rfl, hdr5, hg5, hR5, hc5, hsl5, hts5⟩ := (HSW.out wr HQR.out).nth hlt
        have hok5 := allT_get f i hd qs HOK.out hg5
        have hmx : ∀ h : Nd, OkO h → h.nm.size ≤ 9223372036854775807 := fun h hh => by have := hh.1; unfold maxLen at this; omega
        have HGR := Lib.hid (greatTm_any hd qs wr (Low w) u1 v1 t1 u2 v2 t2 hsl5 hts5 (hmx _ hok5.1) (allT_mono hmx _ hok5.2))
        have HSL5 := Lib.hid hsl5
        have HTS5 := Lib.hid hts5
        have HC5 := Lib.hid hc5
        have HDR := Lib.hid hdr5
        have HG5 := Lib.hid hg5
        obtain ⟨f0, f1, f2, f3, f4, f5, f6, f7, f8⟩ := hc5
        unfold tmv at HGR
        clear hok5 hmx hsl5 hts5 hdr5 hg5 hR5
        cases hgr : greatTm hd qs
        · rw [hgr] at HGR
          go_wp2_with fail
          refine HGR.out.mono ?_; rintro e w1 ⟨rfl, hq1⟩
          have HQ1 := Lib.hid hq1
          have HNG' : Hid (∀ j, j < i + 1 → ∀ h ps, f.get j = some (h, ps) → greatTm h ps = false) := by
            intro j hj h ps e
            by_cases hji : j < i
            · exact HNG.out j hji h ps e
            · obtain rfl : j = i := by omega
              have := HG5.out.symm.trans e
              cases this
              exact hgr
          clear f0 f1 f2 f3 f4 f5 f6 f7 f8 hq1 hgr
          obtain ⟨f0, f1, f2, f3, f4, f5, f6, f7, f8⟩ := HC5.out.fr HQ1.out (fun h => h)
          obtain ⟨p1, m1, d1, p2, m2, d2, hbx, hp1, hp2⟩ := HR.out.box
          obtain ⟨⟨x0, x1, x2, x3, x4, x5, x6, x7, x8⟩, y0, y1, y2, y3, y4, y5, y6, y7, y8⟩ := block9 (blk_after HQ1.out hbx)
          have HBX := Lib.hid (blk_after HQ1.out hbx)
          have HP1 := Lib.hid (hp1.stay HQ1.out)
          have HP2 := Lib.hid (hp2.stay HQ1.out)
          have HU1 := Lib.hid (HNE.out _ (HQR.out.trans HQ1.out) _ _ _ (HSL5.out.stay HQ1.out))
          have HU2 := Lib.hid (HNT.out _ (HQR.out.trans HQ1.out) _ _ _ (HTS5.out.stay HQ1.out))
          have HFR := Lib.hid (HR.out.fr.trans HQ1.out.fr)
          clear hbx hp1 hp2
          by_cases hi0 : i = 0
          · subst hi0
            rw [Nat.zero_mul, Nat.add_zero] at f0 f1 f2 f3 f4 f5 f6 f7 f8
            have HN := Lib.hid (TlRel.first (t1 := t1) (t2 := t2) HFR.out HBX.out HU1.out HU2.out)
            unfold put9 at HN
            have HFN : Hid (foldA hd qs (f.drop (0 + 1)) = appAll f) := by
              show _ = _
              conv => rhs; rw [← To.drop_zero f, HDR.out]
              rfl
            go_wp2_with fail
            go_roundw
            case rel => exact ⟨0 + 1, hd, qs, by go_num, by omega, .inr ⟨by omega, HFN.out⟩, HNG'.out, HN.out⟩
            case measure => simp [intOf]; omega
          · have hi0' : ¬ (i : Int) = 0 := by omega
            have HN := Lib.hid (TlRel.next (t1 := t1) (t2 := t2) HFR.out HBX.out HP1.out HP2.out HU1.out HU2.out)
            unfold put9 at HN
            have HFN : Hid (foldA appNd (.cons g gs (.cons hd qs .nil)) (f.drop (i + 1)) = appAll f) := by
              show _ = _
              rcases HFO.out with h | h
              · exact absurd h.1 hi0
              · rw [← h.2, HDR.out]; rfl
            go_upto_region 11 with fail
            have hlx := lt_of_block HBX.out
            go_region_with fail
            all_goals
              clear x0 x1 x2 x3 x4 x5 x6 x7 x8 y0 y1 y2 y3 y4 y5 y6 y7 y8 f0 f1 f2 f3 f4 f5 f6 f7 f8 hlx
              go_wp2_with fail
              go_roundw
              case rel => exact ⟨i + 1, appNd, _, by go_num, by omega, .inr ⟨by omega, HFN.out⟩, HNG'.out, by first | with_reducible exact HN.out | with_reducible exact HN.out.drew | with_reducible exact HN.out.drew.drew⟩
              case measure => simp [intOf]; omega
        · rw [hgr] at HGR
          go_wp2_with fail
          refine HGR.out.mono ?_; rintro e w1 ⟨rfl, hq1⟩
          clear f0 f1 f2 f3 f4 f5 f6 f7 f8
          go_wp2_with fail
          refine (HA.out _ (HQR.out.trans hq1)).mono ?_; rintro e w2 ⟨rfl, hq2⟩
          go_wp2_with fail
          go_ret
          exact ⟨rfl, (HQR.out.trans hq1).trans hq2⟩
      · have hlt' : ¬ (i : Int) < n := by omega
        obtain rfl : i = n := by omega
        have hfin : appAll f = (g, gs) := by
          rcases HFO.out with ⟨h1, h2, h3⟩ | ⟨h1, h2⟩
          · subst h1 h2 h3
            have := HF.out
            cases f with
            | nil => rfl
            | cons _ _ _ => simp [To.length] at this
          · rw [To.drop_end f i (by have := HF.out; omega)] at h2; exact h2.symm
        have HAP := Lib.hid (HAPL.out (fun j h ps e => HNG.out j (by have := get_lt f j h ps e; have := HF.out; omega) h ps e))
        rw [hfin] at HAP
        obtain ⟨q1, n1, e1, q2, n2, e2, hbx, hp1, hp2⟩ := HR.out.box
        have HBC : Hid (∀ W, Quiet0 wr W → W.cell? ⟨B, 0, none⟩ = some (.int .i64 g.k) ∧ W.cell? ⟨B, 1, none⟩ = some (.string g.nm) ∧ W.cell? ⟨B, 2, none⟩ = some (.int .i64 g.n) ∧ W.cell? ⟨B, 3, none⟩ = some (.int .i64 g.tk) ∧ W.cell? ⟨B, 4, none⟩ = some (.int .i64 g.tn) ∧ W.cell? ⟨B, 5, none⟩ = some (.slice q1 n1 e1) ∧ W.cell? ⟨B, 6, none⟩ = some (.slice q2 n2 e2) ∧ W.cell? ⟨B, 7, none⟩ = some (.int .i64 g.fr) ∧ W.cell? ⟨B, 8, none⟩ = some (.int .i64 g.en)) := fun W hq => (block9 (blk_after hq hbx)).1
        have HAP2 : Hid (∀ W, Quiet0 wr W → Calls Tryd.prog 24 #[.slice o i cap] W fun e w' => ∃ p1 m1 d1 p2 m2 d2, e = .returned (tmv g p1 m1 d1 p2 m2 d2) ∧ SlcIn (fun _ => True) w' p1 m1 g.tp ∧ TSlc (fun _ => True) w' p2 m2 gs ∧ Quiet0 W w') := fun W hq => HAP.out W (HQR.out.trans hq)
        have HEQ : Hid (∀ W p1 m1 d1 p2 m2 d2, Quiet0 wr W → SlcIn (fun _ => True) W p1 m1 g.tp → TSlc (fun _ => True) W p2 m2 gs → Calls Tryd.prog 23 #[tmv g p1 m1 d1 p2 m2 d2, tmv g q1 n1 e1 q2 n2 e2] W fun e w' => e = .returned (.bool true) ∧ Quiet0 W w') := by
          intro W p1 m1 d1 p2 m2 d2 hq h1 h2
          have h := refEqualT_any g gs g gs W (fun _ => True) p1 m1 d1 p2 m2 d2 q1 n1 e1 q2 n2 e2 h1 h2 ((hp1.stay hq).mono (fun _ _ _ => trivial)) ((hp2.stay hq).mono (fun _ _ _ => trivial))
          rw [alikeT_refl] at h; exact h
        have HAW : Hid (∀ W, Quiet0 wr W → Calls Tryd.prog 21 #[] W fun e w' => e = .returned (.bool true) ∧ Quiet0 W w') := fun W hq => HA.out W (HQR.out.trans hq)
        have hqc := Quiet0.refl wr
        obtain ⟨x0, x1, x2, x3, x4, x5, x6, x7, x8⟩ := HBC.out wr (Quiet0.refl _)
        clear hfin hbx hp1 hp2 HAPL HAP
        unfold tmv at HAP2 HEQ
        go_upto_region 12 with fail
        go_region_held3 (fun W => W.cell? ⟨B, 0, none⟩ = some (.int .i64 g.k) ∧ W.cell? ⟨B, 1, none⟩ = some (.string g.nm) ∧ W.cell? ⟨B, 2, none⟩ = some (.int .i64 g.n) ∧ W.cell? ⟨B, 3, none⟩ = some (.int .i64 g.tk) ∧ W.cell? ⟨B, 4, none⟩ = some (.int .i64 g.tn) ∧ W.cell? ⟨B, 5, none⟩ = some (.slice q1 n1 e1) ∧ W.cell? ⟨B, 6, none⟩ = some (.slice q2 n2 e2) ∧ W.cell? ⟨B, 7, none⟩ = some (.int .i64 g.fr) ∧ W.cell? ⟨B, 8, none⟩ = some (.int .i64 g.en))
          (((refine HBC.out _ ?_); (repeat (first | with_reducible exact hqc | with_reducible exact Quiet0.refl _ | with_reducible refine Quiet0.trans ?_ (Quiet0.alloc _ _) | with_reducible refine Quiet0.trans ?_ (Quiet0.drew _) | fail))))
          (first
            | (go_at_call 24; (with_reducible refine Calls.mono (HAP2.out _ ?hq) ?_); (case hq => (repeat (first | with_reducible exact hqc | with_reducible exact Quiet0.refl _ | with_reducible refine Quiet0.trans ?_ (Quiet0.alloc _ _) | with_reducible refine Quiet0.trans ?_ (Quiet0.drew _) | fail))); rintro e wx ⟨p1, m1, d1, p2, m2, d2, rfl, hk1, hk2, hqx⟩; (refine with_q (w0 := wr) ?hq2 hqx ?_); (case hq2 => (repeat (first | with_reducible exact hqc | with_reducible exact Quiet0.refl _ | with_reducible refine Quiet0.trans ?_ (Quiet0.alloc _ _) | with_reducible refine Quiet0.trans ?_ (Quiet0.drew _) | fail))); intro hqc)
            | (go_at_call 23; (with_reducible refine Calls.mono (HEQ.out _ _ _ _ _ _ _ ?hq (hk1.stay ?h1) (hk2.stay ?h2)) ?_); (case hq => (repeat (first | with_reducible exact hqc | with_reducible exact Quiet0.refl _ | with_reducible refine Quiet0.trans ?_ (Quiet0.alloc _ _) | with_reducible refine Quiet0.trans ?_ (Quiet0.drew _) | fail))); ((case h1 => (repeat (first | with_reducible exact Quiet0.refl _ | with_reducible refine Quiet0.trans ?_ (Quiet0.alloc _ _) | with_reducible refine Quiet0.trans ?_ (Quiet0.drew _) | fail))); (case h2 => (repeat (first | with_reducible exact Quiet0.refl _ | with_reducible refine Quiet0.trans ?_ (Quiet0.alloc _ _) | with_reducible refine Quiet0.trans ?_ (Quiet0.drew _) | fail)))); rintro e wx ⟨rfl, hqx⟩; (refine with_q (w0 := wr) ?hq2 hqx ?_); (case hq2 => (repeat (first | with_reducible exact hqc | with_reducible exact Quiet0.refl _ | with_reducible refine Quiet0.trans ?_ (Quiet0.alloc _ _) | with_reducible refine Quiet0.trans ?_ (Quiet0.drew _) | fail))); intro hqc)
            | (go_at_call 21; (with_reducible refine Calls.mono (HAW.out _ ?hq) ?_); (case hq => (repeat (first | with_reducible exact hqc | with_reducible exact Quiet0.refl _ | with_reducible refine Quiet0.trans ?_ (Quiet0.alloc _ _) | with_reducible refine Quiet0.trans ?_ (Quiet0.drew _) | fail))); rintro e wx ⟨rfl, hqx⟩; (refine with_q (w0 := wr) ?hq2 hqx ?_); (case hq2 => (repeat (first | with_reducible exact hqc | with_reducible exact Quiet0.refl _ | with_reducible refine Quiet0.trans ?_ (Quiet0.alloc _ _) | with_reducible refine Quiet0.trans ?_ (Quiet0.drew _) | fail))); intro hqc)
            | fail)
        all_goals
          go_wp2_with fail
          go_ret
          exact ⟨rfl, HQR.out.trans hqc⟩
  · have hn12 : (12 : Int) < n := by omega
    clear hs hok ht
    go_enter Tryd.func5, Tryd.ntmps5
    go_wp2_with fail
    refine (HA.out _ (Quiet0.refl _)).mono ?_; rintro e w1 ⟨rfl, hq1⟩
    go_wp2_with fail
    go_ret
    exact ⟨rfl, hq1⟩
end Go.Proofs.YtggidhgifaekbaaDoor
end
section
/-
  The reference's Vars: append of integers, where the order is drawn. Conditions: the rows lie in memory as told; they are short.
-/
namespace Go.Proofs.YtggidhgifaekbaaDoor
open Go.RowKit Go.Maps

/-- a slice's integers -/
def IntsV (w : World) (v : Value) (l : List Int) : Prop := ∃ a c, v = .slice a l.length c ∧ IntsAt w a l
theorem IntsV.stay {w w' : World} {v : Value} {l : List Int} (h : IntsV w v l) (hq : Quiet0 w w') : IntsV w' v l := by
  obtain ⟨a, c, rfl, h⟩ := h
  exact ⟨a, c, rfl, h.stay hq⟩
theorem ownsInts_v {w : World} {v : Value} {l : List Int} (h : w.ownsRow 0 3 1 v l.length (ints l)) : IntsV w v l := by
  obtain ⟨a, c, rfl, _, _, h'⟩ := IntRow.at (B := 0) ⟨h, fun _ _ => Nat.zero_le _⟩
  refine ⟨a, c, rfl, fun i x hx => ?_⟩
  obtain ⟨g, rfl, hc⟩ := row_int h' hx
  exact ⟨g, 0, rfl, by simpa using hc⟩
theorem own_empty {w : World} {b : Nat} (h : w.heap[b]? = some (.cells #[] 3 (0, 0))) : w.ownsRow 0 3 1 (.slice (some ⟨b, 0, none⟩) 0 0) ([] : List Int).length (ints []) := by
  refine ⟨rfl, .inr ⟨b, 0, #[], rfl, Nat.zero_le _, h, Nat.le_refl _, Nat.zero_le _, rfl, rfl⟩⟩
theorem run_append_nothing (w : World) (ty : TypeId) (v : Value) (n : Nat) (xs : List Value) (hown : w.ownsRow 0 3 1 v n xs) (hv : v ≠ .slice none 0 0) (o : Option Addr) (c : Nat) :
    (Builtin.append_ #[45, 45] ty #[v, .slice o 0 c]).run Tryd.prog w = .ok v w := by
  rcases hown.2 with ⟨rfl, _⟩ | ⟨g, cap, cur, rfl, _, hg, hc, hm, hs, _⟩
  · exact absurd rfl hv
  · obtain ⟨i0, hi, hz0, hz1, hz2⟩ := info_parts elemInt.info
    have hu := elemInt.under
    cases o <;> simp [Builtin.append_, run_underlying hu, sizeOf, typeInfo, hi, Builtin.lenOf, Builtin.firstCells, loadCells, loadCellsFrom, storeCells, hc]
end Go.Proofs.YtggidhgifaekbaaDoor
end
section
/-
  The reference's Vars. Conditions: the type and the row lie in memory as told; they are small.
-/
namespace Go.Proofs.YtggidhgifaekbaaDoor
open Go.RowKit Go.Maps

/-- append of integers that lie somewhere to a row of the call's own (not nil) -/
theorem step_ints {ops : Array Oper} {o : Oper} {a : Act} {K : Act → World → Prop} {Q : Exit → Act → World → Prop} {E : Prop} (W : World)
    (hg : o.guard = none) (s x : Operand) (hop : o.op = Op.call { callee := Callee.builtin Builtin.append, args := #[s, x], argTypes := #[45, 45] })
    (v : Value) (xs : List Int) (hs : a.eval s = v) (hown : W.ownsRow 0 3 1 v xs.length (ints xs)) (va : Option Addr) (ys : List Int) (m c : Nat) (hm : m = ys.length) (hx : a.eval x = .slice va m c) (hat : IntsAt W va ys) (hb : xs.length + ys.length ≤ 1000000) (hne : v ≠ .slice none 0 0)
    (hK : ∀ v' w', w'.ownsRow 0 3 1 v' (xs ++ ys).length (ints (xs ++ ys)) → Fr (fun k => v.ownBlock = some k) W w' → (∀ g, v'.ownBlock = some g → v.ownBlock = some g ∨ g = W.heap.size) → v' ≠ .slice none 0 0 → K (a.put o.dst v') w') :
    if Region.wanted o (yielded ops a.tmps) = true then Oper.wp Tryd.prog o a W K Q else E := by
  subst hm
  rw [if_pos (by unfold Region.wanted; rw [hg])]
  by_cases h0 : ys = []
  · subst h0
    have hr := run_append_nothing W o.type v _ _ hown hne va c
    unfold Oper.wp execOp
    simp only [hop, resolve, invoke, builtin, Sem.run_bind, Sem.run_pure, Result.andThen_ok, List.map_toArray, List.map_cons, List.map_nil, hs, hx, List.length_nil, hr]
    exact hK v W (by simpa using hown) (Fr.refl _ _) (fun g h => .inl h) hne
  · obtain ⟨y, r, rfl⟩ := List.exists_cons_of_ne_nil h0
    obtain ⟨b, off, rfl, _⟩ := hat 0 y rfl
    obtain ⟨i0, hi, hz0, hz1, hz2⟩ := info_parts elemInt.info
    refine wp_append_lies (P := Tryd.prog) W s x 45 hop 0 3 i0 (.int .i64 0) 1 8 elemInt.under hi hz0 hz1 hz2 (by decide) (by decide) v xs.length (ints xs) hs hown ⟨b, off, none⟩ (y :: r).length c (ints (y :: r)) hx (by simp [ints]) ?_ (by unfold ints; intro u hu; obtain ⟨z, _, rfl⟩ := List.mem_map.1 hu; rfl) (by simp) (by unfold maxLen; omega) (by omega) (Nat.zero_le _) _ rfl ?_
    · intro j u hj
      unfold ints at hj
      rw [List.getElem?_map] at hj
      cases hz : (y :: r)[j]? with
      | none => rw [hz] at hj; cases hj
      | some z =>
        rw [hz] at hj
        cases hj
        obtain ⟨b', off', he, hc⟩ := hat j z hz
        cases he
        simpa [Addr.add_lit] using hc
    · intro g cap w' ho hgr hg' _
      refine hK _ w' ?_ (Fr.grown hgr (fun k hk => hk)) ?_ (by simp)
      · rw [List.length_append]; unfold ints at *; rw [List.map_append]; exact ho
      · intro g2 h2
        simp [Value.ownBlock] at h2
        subst h2
        exact hg'
theorem ints_one {W : World} {b : Nat} {n : Int} (h : W.heap[b]? = some (.cells #[.int .i64 n] 3 (0, 0))) : IntsAt W (some ⟨b, 0, none⟩) [n] := by
  intro i x hx
  cases i with
  | zero =>
    simp at hx
    subst hx
    exact ⟨b, 0, rfl, by rw [cell_of_row _ _ _ _ _ (0, 0) h]; rfl⟩
  | succ i => simp at hx
end Go.Proofs.YtggidhgifaekbaaDoor
end
section
/-
  The reference's Vars, whole. Conditions: as TyRefVars'.
-/
namespace Go.Proofs.YtggidhgifaekbaaDoor
open Go.RowKit Go.Maps

def RVars (k n : Int) (ps : Fo) : Prop := ∀ (w : World) (o : Option Addr) (len cap : Nat) (vo : Value) (L : List Int), Slc w o len ps → IntsV w vo L → L.length + ps.size ≤ 199000 + 999 →
  Calls Tryd.prog 43 #[tyv k n o len cap, vo] w fun e w' => ∃ vo', e = .returned vo' ∧ IntsV w' vo' (Fo.vars L (.cons k n ps .nil)) ∧ Quiet0 w w'
set_option maxHeartbeats 4000000 in
set_option maxRecDepth 100000 in
theorem refVars_any (k n : Int) (ps : Fo) : RVars k n ps := by
  refine Fo.ind' (T := RVars) ?_ k n ps
  intro k n ps ih w o len cap vo L hs hv hsz
  obtain ⟨va, vc, rfl, hat⟩ := hv
  have HS := Lib.hid hs
  have HL := Lib.hid hs.1
  have hmx := hs.2.1
  unfold maxLen at hmx
  have IH := Lib.hid ih
  have HAT0 := Lib.hid hat
  obtain ⟨RES, hres⟩ : ∃ RES, RES = Fo.vars L (.cons k n ps .nil) := ⟨_, rfl⟩
  have HRES : Hid (RES = Fo.vars (varStep L k n ps) ps) := hres
  have HIN := Lib.hid (fun (W : World) (hq : Quiet0 w W) => refIn_any va L.length vc L n W (hat.stay hq) rfl (by omega))
  obtain ⟨W0, hW0⟩ : ∃ W0, W0 = w.alloc (.cells #[.int .i64 k, .int .i64 n, .slice o len cap] 24) := ⟨_, rfl⟩
  have HQ0 : Hid (Quiet0 w W0) := by rw [hW0]; exact Quiet0.alloc _ _
  have HBB : Hid (∀ W, Quiet0 W0 W → W.cell? ⟨w.heap.size, 0, none⟩ = some (.int .i64 k) ∧ W.cell? ⟨w.heap.size, 1, none⟩ = some (.int .i64 n) ∧ W.cell? ⟨w.heap.size, 2, none⟩ = some (.slice o len cap)) := by
    intro W hq; rw [hW0] at hq; exact box_cells w k n o len cap _ W hq
  rw [← hres]
  clear hs hat ih hres
  unfold tyv
  cases hk : (k == 1)
  · have HST : Hid (varStep L k n ps = L) := by show _ = _; unfold varStep; rw [hk]; rfl
    go_enter Tryd.func43, Tryd.ntmps43
    generalize hB : w.heap.size = B at *
    go_upto_region 1 with fail
    rw [← hW0]
    clear hW0
    obtain ⟨a0, a1, a2⟩ := HBB.out W0 (Quiet0.refl _)
    go_wp2_with fail
    go_loopw [1, 5] (fun v t wr => ∃ (i : Nat) (l : List Int), t = .int .i64 i ∧ i ≤ len ∧ IntsV wr v l ∧ Fo.vars l (ps.drop i) = RES ∧ l.length + (ps.drop i).size ≤ 200000 ∧ Quiet0 W0 wr) (fun _ t _ => len - (intOf t).toNat)
    case atStart => exact ⟨0, L, rfl, Nat.zero_le _, ⟨va, vc, rfl, HAT0.out.stay HQ0.out⟩, by rw [Fo.drop_zero, HRES.out, HST.out], by rw [Fo.drop_zero]; omega, Quiet0.refl _⟩
    case round =>
      obtain ⟨i, l, rfl, hi, hv, hr, hz, hq⟩ := hrel
      have HV := Lib.hid hv
      have HR := Lib.hid hr
      have HZ := Lib.hid hz
      have HQ := Lib.hid hq
      obtain ⟨b0, b1, b2⟩ := HBB.out wr hq
      clear hv hr hz hq
      by_cases hlt : i < len
      · have hlt' : (i : Int) < len := by omega
        obtain ⟨b, off, k1, n1, qs, o1, len1, cap1, rfl, hd, hg, e0, e1, e2, hs1⟩ := (HS.out.stay (HQ0.out.trans HQ.out)).nth hlt
        have hzz : l.length + qs.size + 1 + (ps.drop (i + 1)).size ≤ 200000 := by have := HZ.out; rw [hd] at this; simp only [Fo.size] at this; omega
        have HC := Lib.hid (IH.out i k1 n1 qs hg wr o1 len1 cap1 u1 l hs1 HV.out (by omega))
        have HR2 : Hid (Fo.vars (Fo.vars l (.cons k1 n1 qs .nil)) (ps.drop (i + 1)) = RES) := by
          show _ = _
          rw [← HR.out, hd]; rfl
        have HZ2 : Hid ((Fo.vars l (.cons k1 n1 qs .nil)).length + (ps.drop (i + 1)).size ≤ 200000) := by
          show _ ≤ _
          have := vars_len (.cons k1 n1 qs .nil) l
          simp only [Fo.size] at this
          omega
        unfold tyv at HC
        generalize Fo.vars l (.cons k1 n1 qs .nil) = l2 at *
        clear hd hg hs1 hzz
        go_wp2_with fail
        refine HC.out.mono ?_; rintro e w2 ⟨v2, rfl, hv2, hq2⟩
        have HV2 := Lib.hid hv2
        have HQ2 := Lib.hid (HQ.out.trans hq2)
        clear hv2 hq2
        go_wp2_with fail
        go_roundw
        case rel => exact ⟨i + 1, l2, by go_num, by omega, HV2.out, HR2.out, HZ2.out, HQ2.out⟩
        case measure => simp [intOf]; omega
      · have hlt' : ¬ (i : Int) < len := by omega
        have hfin : l = RES := by have := HR.out; rw [Fo.drop_end ps i (by have := HL.out; omega)] at this; exact this
        have HFIN := Lib.hid hfin
        clear hfin
        go_wp2_with fail
        go_ret
        exact ⟨_, rfl, HFIN.out ▸ HV.out, HQ0.out.trans HQ.out⟩
  · cases hin : inB L n
    · have HST : Hid (varStep L k n ps = L ++ [n]) := by show _ = _; unfold varStep; rw [hk, hin]; rfl
      rw [hin] at HIN
      go_enter Tryd.func43, Tryd.ntmps43
      generalize hB : w.heap.size = B at *
      go_upto_region 1 with fail
      rw [← hW0]
      clear hW0
      obtain ⟨a0, a1, a2⟩ := HBB.out W0 (Quiet0.refl _)
      go_wp2_with fail
      refine (HIN.out _ HQ0.out).mono ?_; rintro e W1' ⟨rfl, rfl⟩
      have hq1 := Quiet0.refl W0
      have HQ1 := Lib.hid hq1
      clear a0 a1 a2
      go_upto_region 2 with fail
      obtain ⟨a0, a1, a2⟩ := HBB.out W0 hq1
      clear hq1
      have HAT := Lib.hid (HAT0.out.stay (HQ0.out.trans HQ1.out))
      have HS1 : Hid (∀ W, Quiet0 W0 W → W.cell? ⟨B, 1, none⟩ = some (.int .i64 n)) := fun W hq => (HBB.out W (HQ1.out.trans hq)).2.1
      go_cut [1] (fun v wx => IntsV wx v (L ++ [n]) ∧ Quiet0 W0 wx)
      case first =>
        have hqc := Quiet0.refl W0
        go_region_held3 (fun w' => w'.cell? ⟨B, 1, none⟩ = some (.int .i64 n))
          (((refine HS1.out _ ?_); (repeat (first | with_reducible exact hqc | with_reducible exact Quiet0.refl _ | with_reducible refine Quiet0.trans ?_ (Quiet0.alloc _ _) | with_reducible refine Quiet0.trans ?_ (Quiet0.drew _) | fail))))
          (first
            | ((refine step_ints _ rfl (.tmp 16) (.tmp 17) rfl (.slice (some ⟨W0.heap.size, 0, none⟩) 0 0) [] rfl ?hown va L L.length vc rfl rfl ?hat ?hbd ?hne ?_); (case hown => ((refine own_empty ?_); (repeat (first | ((with_reducible refine blk_new _ _ _ _ ?hbe); (case hbe => (simp; done))) | with_reducible refine blk_after (Quiet0.alloc _ _) ?_ | with_reducible refine blk_drew ?_ | ((with_reducible refine blk_fr hf3 ?hbo ?_); (case hbo => (simp [Value.ownBlock]; done))) | ((with_reducible refine blk_fr hf3 ?hbo ?_); (case hbo => (simp [Value.ownBlock]; omega))) | fail)))); (case hat => (repeat (first | with_reducible exact HAT.out | with_reducible refine IntsAt.stay ?_ (Quiet0.alloc _ _) | with_reducible refine IntsAt.stay ?_ (Quiet0.drew _) | fail))); (case hbd => (simp; omega)); (case hne => simp); intro v3 w3 ho3 hf3 hg3 hn3; (refine with_fr2 (w0 := W0) ?hch hf3 ?hlo ?_); (case hch => (repeat (first | with_reducible exact hqc | with_reducible exact Quiet0.refl _ | with_reducible refine Quiet0.trans ?_ (Quiet0.alloc _ _) | with_reducible refine Quiet0.trans ?_ (Quiet0.drew _) | fail))); (case hlo => (intro k hk; simp [Value.ownBlock] at hk; omega)); intro hqc hw3)
            | ((refine step_ints _ rfl (.tmp 16) (.tmp 17) rfl (.slice (some ⟨W0.heap.size + 1, 0, none⟩) 0 0) [] rfl ?hown va L L.length vc rfl rfl ?hat ?hbd ?hne ?_); (case hown => ((refine own_empty ?_); (repeat (first | ((with_reducible refine blk_new _ _ _ _ ?hbe); (case hbe => (simp; done))) | with_reducible refine blk_after (Quiet0.alloc _ _) ?_ | with_reducible refine blk_drew ?_ | ((with_reducible refine blk_fr hf3 ?hbo ?_); (case hbo => (simp [Value.ownBlock]; done))) | ((with_reducible refine blk_fr hf3 ?hbo ?_); (case hbo => (simp [Value.ownBlock]; omega))) | fail)))); (case hat => (repeat (first | with_reducible exact HAT.out | with_reducible refine IntsAt.stay ?_ (Quiet0.alloc _ _) | with_reducible refine IntsAt.stay ?_ (Quiet0.drew _) | fail))); (case hbd => (simp; omega)); (case hne => simp); intro v3 w3 ho3 hf3 hg3 hn3; (refine with_fr2 (w0 := W0) ?hch hf3 ?hlo ?_); (case hch => (repeat (first | with_reducible exact hqc | with_reducible exact Quiet0.refl _ | with_reducible refine Quiet0.trans ?_ (Quiet0.alloc _ _) | with_reducible refine Quiet0.trans ?_ (Quiet0.drew _) | fail))); (case hlo => (intro k hk; simp [Value.ownBlock] at hk; omega)); intro hqc hw3)
            | ((refine step_ints _ rfl (.tmp 18) (.tmp 21) rfl v3 ([] ++ L) rfl ?hown (some ⟨W0.heap.size, 0, none⟩) [n] 1 1 rfl rfl ?hat ?hbd hn3 ?_); (case hown => (first | with_reducible exact ho3 | with_reducible exact ho3.alloc _ | fail)); (case hat => ((refine ints_one ?_); (repeat (first | ((with_reducible refine blk_new _ _ _ _ ?hbe); (case hbe => (simp; done))) | with_reducible refine blk_after (Quiet0.alloc _ _) ?_ | with_reducible refine blk_drew ?_ | ((with_reducible refine blk_fr hf3 ?hbo ?_); (case hbo => (simp [Value.ownBlock]; done))) | ((with_reducible refine blk_fr hf3 ?hbo ?_); (case hbo => (simp [Value.ownBlock]; omega))) | fail)))); (case hbd => (simp; omega)); intro v4 w4 ho4 hf4 hg4 hn4; (refine with_fr2 (w0 := W0) ?hch hf4 ?hlo ?_); (case hch => (repeat (first | with_reducible exact hqc | with_reducible exact Quiet0.refl _ | with_reducible refine Quiet0.trans ?_ (Quiet0.alloc _ _) | with_reducible refine Quiet0.trans ?_ (Quiet0.drew _) | fail))); (case hlo => (intro k hk; rcases hg3 k hk with h | h; (simp [Value.ownBlock] at h; omega); (simp at h; omega))); intro hqc hw4)
            | ((refine step_ints _ rfl (.tmp 18) (.tmp 21) rfl v3 ([] ++ L) rfl ?hown (some ⟨W0.heap.size + 1, 0, none⟩) [n] 1 1 rfl rfl ?hat ?hbd hn3 ?_); (case hown => (first | with_reducible exact ho3 | with_reducible exact ho3.alloc _ | fail)); (case hat => ((refine ints_one ?_); (repeat (first | ((with_reducible refine blk_new _ _ _ _ ?hbe); (case hbe => (simp; done))) | with_reducible refine blk_after (Quiet0.alloc _ _) ?_ | with_reducible refine blk_drew ?_ | ((with_reducible refine blk_fr hf3 ?hbo ?_); (case hbo => (simp [Value.ownBlock]; done))) | ((with_reducible refine blk_fr hf3 ?hbo ?_); (case hbo => (simp [Value.ownBlock]; omega))) | fail)))); (case hbd => (simp; omega)); intro v4 w4 ho4 hf4 hg4 hn4; (refine with_fr2 (w0 := W0) ?hch hf4 ?hlo ?_); (case hch => (repeat (first | with_reducible exact hqc | with_reducible exact Quiet0.refl _ | with_reducible refine Quiet0.trans ?_ (Quiet0.alloc _ _) | with_reducible refine Quiet0.trans ?_ (Quiet0.drew _) | fail))); (case hlo => (intro k hk; rcases hg3 k hk with h | h; (simp [Value.ownBlock] at h; omega); (simp at h; omega))); intro hqc hw4)
            | ((refine step_ints _ rfl (.tmp 18) (.tmp 21) rfl v3 ([] ++ L) rfl ?hown (some ⟨w3.heap.size, 0, none⟩) [n] 1 1 rfl rfl ?hat ?hbd hn3 ?_); (case hown => (first | with_reducible exact ho3 | with_reducible exact ho3.alloc _ | fail)); (case hat => ((refine ints_one ?_); (repeat (first | ((with_reducible refine blk_new _ _ _ _ ?hbe); (case hbe => (simp; done))) | with_reducible refine blk_after (Quiet0.alloc _ _) ?_ | with_reducible refine blk_drew ?_ | ((with_reducible refine blk_fr hf3 ?hbo ?_); (case hbo => (simp [Value.ownBlock]; done))) | ((with_reducible refine blk_fr hf3 ?hbo ?_); (case hbo => (simp [Value.ownBlock]; omega))) | fail)))); (case hbd => (simp; omega)); intro v4 w4 ho4 hf4 hg4 hn4; (refine with_fr2 (w0 := W0) ?hch hf4 ?hlo ?_); (case hch => (repeat (first | with_reducible exact hqc | with_reducible exact Quiet0.refl _ | with_reducible refine Quiet0.trans ?_ (Quiet0.alloc _ _) | with_reducible refine Quiet0.trans ?_ (Quiet0.drew _) | fail))); (case hlo => (intro k hk; rcases hg3 k hk with h | h; (simp [Value.ownBlock] at h; omega); (simp at h; omega))); intro hqc hw4)
            | fail)
        all_goals
          go_wp2_with fail
          go_meet
          exact ⟨by have := ownsInts_v ho4; simpa using this, hqc⟩
      case rest =>
        obtain ⟨hvn, hqn⟩ := hcut
        have HVN := Lib.hid hvn
        have HQN := Lib.hid (HQ1.out.trans hqn)
        clear a0 a1 a2 hvn hqn
        go_wp2_with fail
        go_loopw [1, 5] (fun v t wr => ∃ (i : Nat) (l : List Int), t = .int .i64 i ∧ i ≤ len ∧ IntsV wr v l ∧ Fo.vars l (ps.drop i) = RES ∧ l.length + (ps.drop i).size ≤ 200000 ∧ Quiet0 W0 wr) (fun _ t _ => len - (intOf t).toNat)
        case atStart => exact ⟨0, L ++ [n], rfl, Nat.zero_le _, HVN.out, by rw [Fo.drop_zero, HRES.out, HST.out], by rw [Fo.drop_zero]; simp; omega, HQN.out⟩
        case round =>
          obtain ⟨i, l, rfl, hi, hv, hr, hz, hq⟩ := hrel
          have HV := Lib.hid hv
          have HR := Lib.hid hr
          have HZ := Lib.hid hz
          have HQ := Lib.hid hq
          obtain ⟨b0, b1, b2⟩ := HBB.out wr hq
          clear hv hr hz hq
          by_cases hlt : i < len
          · have hlt' : (i : Int) < len := by omega
            obtain ⟨b, off, k1, n1, qs, o1, len1, cap1, rfl, hd, hg, e0, e1, e2, hs1⟩ := (HS.out.stay (HQ0.out.trans HQ.out)).nth hlt
            have hzz : l.length + qs.size + 1 + (ps.drop (i + 1)).size ≤ 200000 := by have := HZ.out; rw [hd] at this; simp only [Fo.size] at this; omega
            have HC := Lib.hid (IH.out i k1 n1 qs hg wr o1 len1 cap1 u1 l hs1 HV.out (by omega))
            have HR2 : Hid (Fo.vars (Fo.vars l (.cons k1 n1 qs .nil)) (ps.drop (i + 1)) = RES) := by
              show _ = _
              rw [← HR.out, hd]; rfl
            have HZ2 : Hid ((Fo.vars l (.cons k1 n1 qs .nil)).length + (ps.drop (i + 1)).size ≤ 200000) := by
              show _ ≤ _
              have := vars_len (.cons k1 n1 qs .nil) l
              simp only [Fo.size] at this
              omega
            unfold tyv at HC
            generalize Fo.vars l (.cons k1 n1 qs .nil) = l2 at *
            clear hd hg hs1 hzz
            go_wp2_with fail
            refine HC.out.mono ?_; rintro e w2 ⟨v2, rfl, hv2, hq2⟩
            have HV2 := Lib.hid hv2
            have HQ2 := Lib.hid (HQ.out.trans hq2)
            clear hv2 hq2
            go_wp2_with fail
            go_roundw
            case rel => exact ⟨i + 1, l2, by go_num, by omega, HV2.out, HR2.out, HZ2.out, HQ2.out⟩
            case measure => simp [intOf]; omega
          · have hlt' : ¬ (i : Int) < len := by omega
            have hfin : l = RES := by have := HR.out; rw [Fo.drop_end ps i (by have := HL.out; omega)] at this; exact this
            have HFIN := Lib.hid hfin
            clear hfin
            go_wp2_with fail
            go_ret
            exact ⟨_, rfl, HFIN.out ▸ HV.out, HQ0.out.trans HQ.out⟩
    · have HST : Hid (varStep L k n ps = L) := by show _ = _; unfold varStep; rw [hk, hin]; rfl
      rw [hin] at HIN
      go_enter Tryd.func43, Tryd.ntmps43
      generalize hB : w.heap.size = B at *
      go_upto_region 1 with fail
      rw [← hW0]
      clear hW0
      obtain ⟨a0, a1, a2⟩ := HBB.out W0 (Quiet0.refl _)
      go_wp2_with fail
      refine (HIN.out _ HQ0.out).mono ?_; rintro e W1' ⟨rfl, rfl⟩
      have hq1 := Quiet0.refl W0
      have HQ1 := Lib.hid hq1
      clear a0 a1 a2 hq1
      go_wp2_with fail
      go_loopw [1, 5] (fun v t wr => ∃ (i : Nat) (l : List Int), t = .int .i64 i ∧ i ≤ len ∧ IntsV wr v l ∧ Fo.vars l (ps.drop i) = RES ∧ l.length + (ps.drop i).size ≤ 200000 ∧ Quiet0 W0 wr) (fun _ t _ => len - (intOf t).toNat)
      case atStart => exact ⟨0, L, rfl, Nat.zero_le _, ⟨va, vc, rfl, HAT0.out.stay (HQ0.out.trans HQ1.out)⟩, by rw [Fo.drop_zero, HRES.out, HST.out], by rw [Fo.drop_zero]; omega, HQ1.out⟩
      case round =>
        obtain ⟨i, l, rfl, hi, hv, hr, hz, hq⟩ := hrel
        have HV := Lib.hid hv
        have HR := Lib.hid hr
        have HZ := Lib.hid hz
        have HQ := Lib.hid hq
        obtain ⟨b0, b1, b2⟩ := HBB.out wr hq
        clear hv hr hz hq
        by_cases hlt : i < len
        · have hlt' : (i : Int) < len := by omega
          obtain ⟨b, off, k1, n1, qs, o1, len1, cap1, rfl, hd, hg, e0, e1, e2, hs1⟩ := (HS.out.stay (HQ0.out.trans HQ.out)).nth hlt
          have hzz : l.length + qs.size + 1 + (ps.drop (i + 1)).size ≤ 200000 := by have := HZ.out; rw [hd] at this; simp only [Fo.size] at this; omega
          have HC := Lib.hid (IH.out i k1 n1 qs hg wr o1 len1 cap1 u1 l hs1 HV.out (by omega))
          have HR2 : Hid (Fo.vars (Fo.vars l (.cons k1 n1 qs .nil)) (ps.drop (i + 1)) = RES) := by
            show _ = _
            rw [← HR.out, hd]; rfl
          have HZ2 : Hid ((Fo.vars l (.cons k1 n1 qs .nil)).length + (ps.drop (i + 1)).size ≤ 200000) := by
            show _ ≤ _
            have := vars_len (.cons k1 n1 qs .nil) l
            simp only [Fo.size] at this
            omega
          unfold tyv at HC
          generalize Fo.vars l (.cons k1 n1 qs .nil) = l2 at *
          clear hd hg hs1 hzz
          go_wp2_with fail
          refine HC.out.mono ?_; rintro e w2 ⟨v2, rfl, hv2, hq2⟩
          have HV2 := Lib.hid hv2
          have HQ2 := Lib.hid (HQ.out.trans hq2)
          clear hv2 hq2
          go_wp2_with fail
          go_roundw
          case rel => exact ⟨i + 1, l2, by go_num, by omega, HV2.out, HR2.out, HZ2.out, HQ2.out⟩
          case measure => simp [intOf]; omega
        · have hlt' : ¬ (i : Int) < len := by omega
          have hfin : l = RES := by have := HR.out; rw [Fo.drop_end ps i (by have := HL.out; omega)] at this; exact this
          have HFIN := Lib.hid hfin
          clear hfin
          go_wp2_with fail
          go_ret
          exact ⟨_, rfl, HFIN.out ▸ HV.out, HQ0.out.trans HQ.out⟩
end Go.Proofs.YtggidhgifaekbaaDoor
end
section
/-
  ref.Named, and ref.sound of any head. Conditions: the head's type lies in memory as told; names and types are not too large.
-/
namespace Go.Proofs.YtggidhgifaekbaaDoor
open Go.RowKit Go.Shelf

set_option maxHeartbeats 1000000 in
theorem refNamed_any (k : Int) (w : World) : Calls Tryd.prog 116 #[.int .i64 k] w fun e w' => e = .returned (.bool (kName k)) ∧ Quiet0 w w' := by
  unfold kName
  cases h1 : (k == 1) <;> cases h4 : (k == 4) <;> cases h6 : (k == 6) <;> cases h7 : (k == 7)
  all_goals
    go_enter Tryd.func116, Tryd.ntmps116
    go_wp2_with fail
    go_ret
    exact ⟨by simp, Quiet0.refl _⟩
/-- the callees of ref.sound at one head, in one hypothesis -/
structure SndC (h : Nd) (W0 : World) (o1 : Option Addr) (l1 c1 : Nat) (o2 : Option Addr) (l2 c2 : Nat) (nb : Nat) : Prop where
  box : ∀ W, Quiet0 W0 W → Cells9 W nb 0 h o1 l1 c1 o2 l2 c2
  named : ∀ W, Calls Tryd.prog 116 #[.int .i64 h.k] W fun e w' => e = .returned (.bool (kName h.k)) ∧ Quiet0 W w'
  name : ∀ W, Calls Tryd.prog 117 #[.string h.nm] W fun e w' => e = .returned (.bool (Lx.nameB h.nm.data.toList)) ∧ Quiet0 W w'
  right : ∀ W, Quiet0 W0 W → Calls Tryd.prog 16 #[.agg #[.int .i64 h.tk, .int .i64 h.tn, .slice o1 l1 c1]] W fun e w' => e = .returned (.bool (rightT h.tk h.tn h.tp)) ∧ Quiet0 W w'
  vars : ∀ W, Quiet0 W0 W → Calls Tryd.prog 43 #[.agg #[.int .i64 h.tk, .int .i64 h.tn, .slice o1 l1 c1], .slice none 0 0] W fun e w' => ∃ va vc, e = .returned (.slice va (Fo.vars [] (.cons h.tk h.tn h.tp .nil)).length vc) ∧ Quiet0 W w'
  same : ∀ W, Quiet0 W0 W → Calls Tryd.prog 19 #[.agg #[.int .i64 h.tk, .int .i64 h.tn, .slice o1 l1 c1], .agg #[.int .i64 0, .int .i64 0, .slice none 0 0]] W fun e w' => e = .returned (.bool (sameT h.tk h.tn h.tp 0 0 .nil)) ∧ Quiet0 W w'


set_option maxHeartbeats 4000000 in
set_option maxRecDepth 100000 in
theorem sndC_of (h : Nd) (w : World) (R : Nat → Prop) (o1 : Option Addr) (l1 c1 : Nat) (o2 : Option Addr) (l2 c2 : Nat) (hs : SlcIn R w o1 l1 h.tp) (hnm : h.nm.size ≤ 100000) (htz : h.tp.size ≤ 100000) :
    SndC h (w.alloc (.cells (cells9 h o1 l1 c1 o2 l2 c2) 35)) o1 l1 c1 o2 l2 c2 w.heap.size := by
  have hq0 := Quiet0.alloc w (.cells (cells9 h o1 l1 c1 o2 l2 c2) 35)
  refine ⟨fun W hq => box9 w h o1 l1 c1 o2 l2 c2 _ W hq, fun W => refNamed_any h.k W, fun W => Lx.refName_any h.nm hnm W, fun W hq => refRight_any h.tk h.tn h.tp W o1 l1 c1 (hs.slc.stay (hq0.trans hq)), fun W hq => ?_, fun W hq => refSame_any h.tk h.tn h.tp 0 0 .nil W o1 l1 c1 none 0 0 (hs.slc.stay (hq0.trans hq)) (Slc.nil _ _)⟩
  refine (refVars_any h.tk h.tn h.tp W o1 l1 c1 (.slice none 0 0) [] (hs.slc.stay (hq0.trans hq)) ⟨none, 0, rfl, ?_⟩ (by simp; omega)).mono ?_
  · intro i x h; simp at h
  · rintro e w' ⟨vo, rfl, ⟨va, vc, rfl, _⟩, hq⟩
    exact ⟨va, vc, rfl, hq⟩
end Go.Proofs.YtggidhgifaekbaaDoor
end
section
/-
  ref.sound of a head of kind 1. Conditions: its callees', in one hypothesis; the number is a Go int.
-/
namespace Go.Proofs.YtggidhgifaekbaaDoor
open Go.RowKit Go.Shelf

set_option maxHeartbeats 4000000 in
set_option maxRecDepth 100000 in
theorem refSound_1 (nm : ByteArray) (n tk tn : Int) (tp : Fo) (fr en : Int) (w : World) (o1 : Option Addr) (l1 c1 : Nat) (o2 : Option Addr) (l2 c2 : Nat) (hw : wfI n)
    (SC : SndC ⟨1, nm, n, tk, tn, tp, fr, en⟩ (w.alloc (.cells (cells9 ⟨1, nm, n, tk, tn, tp, fr, en⟩ o1 l1 c1 o2 l2 c2) 35)) o1 l1 c1 o2 l2 c2 w.heap.size) :
    Calls Tryd.prog 77 #[tmv ⟨1, nm, n, tk, tn, tp, fr, en⟩ o1 l1 c1 o2 l2 c2] w fun e w' => e = .returned (.bool (soundB ⟨1, nm, n, tk, tn, tp, fr, en⟩ l2)) ∧ Quiet0 w w' := by
  have HSC := Lib.hid SC
  have HW := Lib.hid hw
  have HN : Hid (∀ W, Calls Tryd.prog 116 #[.int .i64 1] W fun e w' => e = .returned (.bool true) ∧ Quiet0 W w') := SC.named
  obtain ⟨W0, hW0⟩ : ∃ W0, W0 = w.alloc (.cells (cells9 ⟨1, nm, n, tk, tn, tp, fr, en⟩ o1 l1 c1 o2 l2 c2) 35) := ⟨_, rfl⟩
  have HQ0 : Hid (Quiet0 w W0) := by rw [hW0]; exact Quiet0.alloc _ _
  clear SC hw
  rw [← hW0] at HSC
  unfold tmv
  go_enter Tryd.func77, Tryd.ntmps77
  go_upto_region 1 with fail
  change Code.wp _ _ _ _ (w.alloc (.cells (cells9 ⟨1, nm, n, tk, tn, tp, fr, en⟩ o1 l1 c1 o2 l2 c2) 35))
  rw [← hW0]
  clear hW0
  generalize w.heap.size = B at *
  obtain ⟨x0, x1, x2, x3, x4, x5, x6, x7, x8⟩ := HSC.out.box W0 (Quiet0.refl _)
  dsimp only at x0 x1 x2 x3 x4 x5 x6 x7 x8
  go_quiet (fail)
  go_wp2_with fail
  refine (HN.out _).mono ?_; rintro e w1 ⟨rfl, hq1⟩
  have HQ1 : Hid (Quiet0 W0 w1) := Quiet0.trans (Fr.drewN _ _ _) hq1
  clear x0 x1 x2 x3 x4 x5 x6 x7 x8 hq1
  obtain ⟨x0, x1, x2, x3, x4, x5, x6, x7, x8⟩ := HSC.out.box w1 HQ1.out
  dsimp only at x0 x1 x2 x3 x4 x5 x6 x7 x8
  cases hA : Lx.nameB nm.data.toList
  · have HNM := Lib.hid HSC.out.name
    rw [hA] at HNM
    go_wp2_with fail
    refine (HNM.out _).mono ?_; rintro e w2 ⟨rfl, hq2⟩
    go_wp2_with fail
    go_ret
    exact ⟨by simp [soundB, namedB, kName, hA], HQ0.out.trans (HQ1.out.trans hq2)⟩
  · have HNM := Lib.hid HSC.out.name
    rw [hA] at HNM
    have HNA := Lib.hid hA
    clear hA
    go_wp2_with fail
    refine (HNM.out _).mono ?_; rintro e w2 ⟨rfl, hq2⟩
    have HQ2 := Lib.hid (HQ1.out.trans hq2)
    clear x0 x1 x2 x3 x4 x5 x6 x7 x8 hq2
    go_wp2_with fail
    refine (HN.out _).mono ?_; rintro e w3 ⟨rfl, hq3⟩
    have HQ3 := Lib.hid (HQ2.out.trans hq3)
    clear hq3
    obtain ⟨x0, x1, x2, x3, x4, x5, x6, x7, x8⟩ := HSC.out.box w3 HQ3.out
    dsimp only at x0 x1 x2 x3 x4 x5 x6 x7 x8
    have HSM := Lib.hid HSC.out.same
    cases hT : sameT tk tn tp 0 0 .nil
    · rw [hT] at HSM
      go_wp2_with fail
      refine (HSM.out _ HQ3.out).mono ?_; rintro e w4 ⟨rfl, hq4⟩
      go_wp2_with fail
      go_ret
      exact ⟨by simp [soundB, typedB, hT], HQ0.out.trans (HQ3.out.trans hq4)⟩
    · rw [hT] at HSM
      have HTY := Lib.hid hT
      clear hT
      go_wp2_with fail
      refine (HSM.out _ HQ3.out).mono ?_; rintro e w4 ⟨rfl, hq4⟩
      have HQ4 := Lib.hid (HQ3.out.trans hq4)
      clear x0 x1 x2 x3 x4 x5 x6 x7 x8 hq4
      obtain ⟨x0, x1, x2, x3, x4, x5, x6, x7, x8⟩ := HSC.out.box w4 HQ4.out
      dsimp only at x0 x1 x2 x3 x4 x5 x6 x7 x8
      by_cases hn : n < 0
      · go_wp2_with fail
        go_ret
        exact ⟨by simp [soundB]; omega, HQ0.out.trans HQ4.out⟩
      · have hwn : n ≤ 9223372036854775807 := by have := HW.out; unfold wfI at this; simp only [Lit.wf, IntKind.min, IntKind.max, IntKind.signed, IntKind.bits, Bool.and_eq_true, decide_eq_true_eq, if_true] at this; omega
        go_wp2_with fail
        all_goals
          go_ret
          refine ⟨?_, HQ0.out.trans HQ4.out⟩
          have h1 := HNA.out
          have h2 := HTY.out
          refine congrArg (fun b => Ending.returned (Value.bool b)) ?_
          rw [Bool.eq_iff_iff]
          simp [soundB, namedB, typedB, kName, kTop, kLeast, kMost, h1, h2]
          omega
end Go.Proofs.YtggidhgifaekbaaDoor
end
