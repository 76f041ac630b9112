/-
  Terms that came in as arguments: rows of terms, however deep. No condition.
-/
import Derived.Test.YtggidhgifaekbaaDoorTyOpen
import Derived.Test.YtggidhgifaekbaaDoorTeMem
namespace Go.Proofs.YtggidhgifaekbaaDoor
open Go.ChangeShapes Go.WideShapes Go.ChangeAt Go.RowKit

theorem At.atIn {w : World} : ∀ (f : Fo) (b off : Nat), At w b off f → AtIn (fun k => k < w.heap.size) w b off f
  | .nil, _, _, _ => trivial
  | .cons k n ps r, b, off, h => by
    obtain ⟨h1, h2, ⟨o, l, c, h3, h4, h5, h6⟩, h7⟩ := h
    refine ⟨World.block_lt_of_cell? w _ h1, h1, h2, ⟨o, l, c, h3, h4, h5, fun hl => ?_⟩, At.atIn r b (off + 3) h7⟩
    obtain ⟨b', off', ho, ha⟩ := h6 hl
    exact ⟨b', off', ho, At.atIn ps b' off' ha⟩
theorem Slc.slcIn {w : World} {o : Option Addr} {len : Nat} {f : Fo} (h : Slc w o len f) : SlcIn (fun k => k < w.heap.size) w o len f := by
  refine ⟨h.1, h.2.1, fun hl => ?_⟩
  obtain ⟨b, off, ho, ha⟩ := h.2.2 hl
  exact ⟨b, off, ho, ha.atIn⟩
/-- what an argument's head is sure to be -/
def OkO (h : Nd) : Prop := h.nm.size ≤ maxLen ∧ wfI h.tn ∧ wfF h.tp
section
variable {H : Type} {enc : TypeId × Value → H} {P : Program} {w : World} {base : Nat} {spare : Nat → Bool} {held : Bool}
abbrev Low (w : World) : Nat → Prop := fun k => k < w.heap.size
theorem tin_of_cells {b off len : Nat} (hb : Low w b) (one : ∀ i, i < len → ∃ hd ps o1 l1 c1 o2 l2 c2, Cells9 w b (off + i * 9) hd o1 l1 c1 o2 l2 c2 ∧ SlcIn (Low w) w o1 l1 hd.tp ∧ TSlc (Low w) w o2 l2 ps ∧ OkO hd ∧ allT OkO ps) :
    ∀ m s, s + m = len → ∃ f : To, f.length = m ∧ TIn (Low w) w b (off + s * 9) f ∧ allT OkO f
  | 0, s, _ => ⟨.nil, rfl, trivial, trivial⟩
  | m + 1, s, h => by
    obtain ⟨hd, ps, o1, l1, c1, o2, l2, c2, hc, hs1, hs2, hw, hwp⟩ := one s (by omega)
    obtain ⟨r, hr, ha, hwr⟩ := tin_of_cells hb one m (s + 1) (by omega)
    refine ⟨.cons hd ps r, by simp [To.length, hr], ⟨hb, ⟨o1, l1, c1, o2, l2, c2, hc, hs1, hs2.1, hs2.2.1, hs2.2.2⟩, ?_⟩, hw, hwp, hwr⟩
    rw [show off + s * 9 + 9 = off + (s + 1) * 9 from by omega]
    exact ha
/-- one term's cells, its parts given -/
theorem open_t9 {te : TypeId} {f0 f1 f2 f3 f4 f5 g0 g1 q0 q1 q2 : Field} (he : P.underlying te = some (.struct #[f0, f1, f2, f3, f4, f5])) (ce : P.cellsOf te = 9)
    (o0 : f0.offset = 0) (o1 : f1.offset = 1) (o2 : f2.offset = 2) (o3 : f3.offset = 3) (o4 : f4.offset = 6) (o5 : f5.offset = 7)
    (c0 : P.cellsOf f0.type = 1) (c1 : P.cellsOf f1.type = 1) (c2 : P.cellsOf f2.type = 1) (c3 : P.cellsOf f3.type = 3) (c4 : P.cellsOf f4.type = 1) (c5 : P.cellsOf f5.type = 2)
    (k0 : P.underlying f0.type = some (.int .i64)) (k1 : P.underlying f1.type = some .string) (k2 : P.underlying f2.type = some (.int .i64))
    (k5 : P.underlying f5.type = some (.struct #[g0, g1])) (p0 : g0.offset = 0) (p1 : g1.offset = 1) (d0 : P.cellsOf g0.type = 1) (d1 : P.cellsOf g1.type = 1) (m0 : P.underlying g0.type = some (.int .i64)) (m1 : P.underlying g1.type = some (.int .i64))
    (k3 : P.underlying f3.type = some (.struct #[q0, q1, q2])) (v0 : q0.offset = 0) (v1 : q1.offset = 1) (v2 : q2.offset = 2) (x0 : P.cellsOf q0.type = 1) (x1 : P.cellsOf q1.type = 1) (x2 : P.cellsOf q2.type = 1) (y0 : P.underlying q0.type = some (.int .i64)) (y1 : P.underlying q1.type = some (.int .i64)) (y2 : P.underlying q2.type = some (.slice f3.type))
    {n : Nat} (ih : ∀ m, m < n → ∀ cs x, DataW.trod enc P w base spare held m f4.type cs = some x → ∃ o len cap f, cs = [.slice o len cap] ∧ TSlc (Low w) w o len f ∧ allT OkO f)
    {cs : List Value} {x : DataW H × List MemPlace} (h : DataW.trod enc P w base spare held n te cs = some x) :
    ∃ hd ps o1 l1 c1 o2 l2 c2, cs = (cells9 hd o1 l1 c1 o2 l2 c2).toList ∧ SlcIn (Low w) w o1 l1 hd.tp ∧ TSlc (Low w) w o2 l2 ps ∧ OkO hd ∧ allT OkO ps := by
  obtain ⟨xs, n', hn', _, hcl, hxl, hfx⟩ := DataW.trod_struct he h
  rw [ce] at hcl
  match cs, hcl with
  | [u0, u1, u2, u3, u4, u5, u6, u7, u8], _ =>
    have hxl6 : xs.length = 6 := by simpa using hxl
    have s0 := hfx 0 f0 rfl
    have s1 := hfx 1 f1 rfl
    have s2 := hfx 2 f2 rfl
    have s3 := hfx 3 f3 rfl
    have s4 := hfx 4 f4 rfl
    have s5 := hfx 5 f5 rfl
    rw [c0, o0, show xs[0]? = some (xs[0]'(by omega)) from by simp [hxl6]] at s0
    rw [c1, o1, show xs[1]? = some (xs[1]'(by omega)) from by simp [hxl6]] at s1
    rw [c2, o2, show xs[2]? = some (xs[2]'(by omega)) from by simp [hxl6]] at s2
    rw [c3, o3, show xs[3]? = some (xs[3]'(by omega)) from by simp [hxl6]] at s3
    rw [c4, o4, show xs[4]? = some (xs[4]'(by omega)) from by simp [hxl6]] at s4
    rw [c5, o5, show xs[5]? = some (xs[5]'(by omega)) from by simp [hxl6]] at s5
    obtain ⟨z0, hz0, _, hw0⟩ := DataW.trod_int k0 s0
    obtain ⟨z1, hz1, _, hw1⟩ := DataW.trod_string k1 s1
    obtain ⟨z2, hz2, _, hw2⟩ := DataW.trod_int k2 s2
    obtain ⟨tk, tn, to, tl, tc, tf, hz3, hts, hwt, hwf⟩ := open_agg k3 c3 v0 v1 v2 x0 x1 x2 y0 y1 y2 s3
    obtain ⟨o, l, c, ps, hz4, hps, hwp⟩ := ih n' (by omega) _ _ s4
    obtain ⟨ys, n2, hn2, _, hyc, hyl, hgy⟩ := DataW.trod_struct k5 s5
    have hyl2 : ys.length = 2 := by simpa using hyl
    have t0 := hgy 0 g0 rfl
    have t1 := hgy 1 g1 rfl
    rw [d0, p0, show ys[0]? = some (ys[0]'(by omega)) from by simp [hyl2]] at t0
    rw [d1, p1, show ys[1]? = some (ys[1]'(by omega)) from by simp [hyl2]] at t1
    obtain ⟨z7, hz7, _, _⟩ := DataW.trod_int m0 t0
    obtain ⟨z8, hz8, _, _⟩ := DataW.trod_int m1 t1
    simp at hz0 hz1 hz2 hz3 hz4 hz7 hz8
    obtain ⟨hz3, hz3', hz3''⟩ := hz3
    refine ⟨⟨z0, z1, z2, tk, tn, tf, z7, z8⟩, ps, to, tl, tc, o, l, c, ?_, hts.slcIn, hps, ⟨hw1, hwt, hwf⟩, hwp⟩
    subst hz0 hz1 hz2 hz3 hz3' hz3'' hz4 hz7 hz8
    rfl
theorem open_tparts {te : TypeId} {f0 f1 f2 f3 f4 f5 g0 g1 q0 q1 q2 : Field} (he : P.underlying te = some (.struct #[f0, f1, f2, f3, f4, f5])) (ce : P.cellsOf te = 9)
    (o0 : f0.offset = 0) (o1 : f1.offset = 1) (o2 : f2.offset = 2) (o3 : f3.offset = 3) (o4 : f4.offset = 6) (o5 : f5.offset = 7)
    (c0 : P.cellsOf f0.type = 1) (c1 : P.cellsOf f1.type = 1) (c2 : P.cellsOf f2.type = 1) (c3 : P.cellsOf f3.type = 3) (c4 : P.cellsOf f4.type = 1) (c5 : P.cellsOf f5.type = 2)
    (k0 : P.underlying f0.type = some (.int .i64)) (k1 : P.underlying f1.type = some .string) (k2 : P.underlying f2.type = some (.int .i64)) (k4 : P.underlying f4.type = some (.slice te))
    (k5 : P.underlying f5.type = some (.struct #[g0, g1])) (p0 : g0.offset = 0) (p1 : g1.offset = 1) (d0 : P.cellsOf g0.type = 1) (d1 : P.cellsOf g1.type = 1) (m0 : P.underlying g0.type = some (.int .i64)) (m1 : P.underlying g1.type = some (.int .i64))
    (k3 : P.underlying f3.type = some (.struct #[q0, q1, q2])) (v0 : q0.offset = 0) (v1 : q1.offset = 1) (v2 : q2.offset = 2) (x0 : P.cellsOf q0.type = 1) (x1 : P.cellsOf q1.type = 1) (x2 : P.cellsOf q2.type = 1) (y0 : P.underlying q0.type = some (.int .i64)) (y1 : P.underlying q1.type = some (.int .i64)) (y2 : P.underlying q2.type = some (.slice f3.type)) :
    ∀ (fuel : Nat) (cs : List Value) (x : DataW H × List MemPlace), DataW.trod enc P w base spare held fuel f4.type cs = some x → ∃ o len cap f, cs = [.slice o len cap] ∧ TSlc (Low w) w o len f ∧ allT OkO f := by
  intro fuel
  induction fuel using Nat.strongRecOn with
  | _ fuel ih =>
  intro cs x h
  rcases DataW.trod_slice k4 h with ⟨rfl, _⟩ | ⟨a, len, cap, elems, rest, n, hfu, rfl, _, _, hl, hm, hlen, hel, _⟩
  · exact ⟨_, _, _, .nil, rfl, TSlc.nil _ _ _, trivial⟩
  · have one : ∀ i, i < len → ∃ hd ps o1 l1 c1 o2 l2 c2, (∀ j, j < 9 → w.cell? (a.add (i * 9 + j)) = (cells9 hd o1 l1 c1 o2 l2 c2).toList[j]?) ∧ SlcIn (Low w) w o1 l1 hd.tp ∧ TSlc (Low w) w o2 l2 ps ∧ OkO hd ∧ allT OkO ps := by
      intro i hi
      have h1 := hel i hi
      rw [List.getElem?_eq_getElem (by omega)] at h1
      obtain ⟨cs', h2, h3⟩ := Option.bind_eq_some_iff.1 h1
      rw [ce] at h2
      obtain ⟨_, hcl, hcell⟩ := World.cells?_some h2
      obtain ⟨hd, ps, r1, l1, e1, r2, l2, e2, rfl, hs1, hs2, hw, hwp⟩ := open_t9 he ce o0 o1 o2 o3 o4 o5 c0 c1 c2 c3 c4 c5 k0 k1 k2 k5 p0 p1 d0 d1 m0 m1 k3 v0 v1 v2 x0 x1 x2 y0 y1 y2 (fun m hm cs x => ih m (by omega) cs x) h3
      refine ⟨hd, ps, r1, l1, e1, r2, l2, e2, ?_, hs1, hs2, hw, hwp⟩
      intro j hj
      rw [← Deep.add_add]
      exact hcell j hj
    by_cases h0 : len = 0
    · subst h0
      exact ⟨_, _, _, .nil, rfl, TSlc.nil _ _ _, trivial⟩
    · obtain ⟨hd, ps, r1, l1, e1, r2, l2, e2, h1, _⟩ := one 0 (by omega)
      have h1' := h1 0 (by omega)
      rw [Nat.zero_mul] at h1'
      obtain ⟨b, off, rfl⟩ := spot_none (v := .int .i64 hd.k) h1'
      have hb : Low w b := World.block_lt_of_cell? w (⟨b, off + 0, none⟩ : Addr) (show w.cell? ⟨b, off + 0, none⟩ = some (.int .i64 hd.k) from h1')
      obtain ⟨f, hf, hA, hwf⟩ := tin_of_cells (b := b) (off := off) (len := len) (w := w) hb (fun i hi => by
        obtain ⟨hd, ps, r1, l1, e1, r2, l2, e2, h1, h4⟩ := one i hi
        refine ⟨hd, ps, r1, l1, e1, r2, l2, e2, ?_, h4⟩
        have g := fun j hj => h1 j hj
        simp only [Addr.add_lit] at g
        exact ⟨g 0 (by omega), g 1 (by omega), g 2 (by omega), g 3 (by omega), g 4 (by omega), g 5 (by omega), g 6 (by omega), g 7 (by omega), g 8 (by omega)⟩) len 0 (by omega)
      rw [Nat.zero_mul, Nat.add_zero] at hA
      exact ⟨_, _, _, f, rfl, ⟨hf.symm, by omega, fun _ => ⟨b, off, rfl, hA⟩⟩, hwf⟩
end
section
variable {H : Type} {enc : TypeId × Value → H} {w : World} {base : Nat} {spare : Nat → Bool} {held : Bool}
/-- an argument that is a row of terms -/
theorem open_terms {v : Value} {d : DataW H} {p : List MemPlace} (hv : ∃ a len cap, v = .slice a len cap) (h : DataW.Trod enc Tryd.prog w base spare held 31 v d p) : ∃ o n c f, v = .slice o n c ∧ TSlc (Low w) w o n f ∧ allT OkO f ∧ n ≤ c := by
  obtain ⟨a0, l0, cc0, rfl⟩ := hv
  obtain ⟨fuel, hf⟩ := h
  have hlc : l0 ≤ cc0 := by
    rcases DataW.trod_slice Tryd.underlying31 hf with ⟨he, _⟩ | ⟨a, len, cap, _, _, _, _, he, _, _, hl, _⟩
    · simp [Value.cells] at he; omega
    · simp [Value.cells] at he; omega
  obtain ⟨o, n, c, f, he, hs, hw⟩ := open_tparts Tryd.underlying35 (by kernel_rfl) rfl rfl rfl rfl rfl rfl (by kernel_rfl) (by kernel_rfl) (by kernel_rfl) (by kernel_rfl) (by kernel_rfl) (by kernel_rfl) Tryd.underlying3 Tryd.underlying9 Tryd.underlying3 Tryd.underlying31 Tryd.underlying33 rfl rfl (by kernel_rfl) (by kernel_rfl) Tryd.underlying3 Tryd.underlying3 Tryd.underlying24 rfl rfl rfl (by kernel_rfl) (by kernel_rfl) (by kernel_rfl) Tryd.underlying3 Tryd.underlying3 Tryd.underlying22 fuel _ _ hf
  simp [Value.cells] at he
  obtain ⟨rfl, rfl, rfl⟩ := he
  exact ⟨_, _, _, f, rfl, hs, hw, hlc⟩
/-- an argument that is a term -/
theorem open_term {v : Value} {d : DataW H} {p : List MemPlace} (hv : ∃ cs, v = .agg cs ∧ cs.size = Tryd.prog.cellsOf 35) (h : DataW.Trod enc Tryd.prog w base spare held 35 v d p) : ∃ hd ps o1 l1 c1 o2 l2 c2, v = tmv hd o1 l1 c1 o2 l2 c2 ∧ SlcIn (Low w) w o1 l1 hd.tp ∧ TSlc (Low w) w o2 l2 ps ∧ OkO hd ∧ allT OkO ps := by
  obtain ⟨cs, rfl, _⟩ := hv
  obtain ⟨fuel, hf⟩ := h
  obtain ⟨hd, ps, o1, l1, c1, o2, l2, c2, he, h1, h2, h3, h4⟩ := open_t9 Tryd.underlying35 (by kernel_rfl) rfl rfl rfl rfl rfl rfl (by kernel_rfl) (by kernel_rfl) (by kernel_rfl) (by kernel_rfl) (by kernel_rfl) (by kernel_rfl) Tryd.underlying3 Tryd.underlying9 Tryd.underlying3 Tryd.underlying33 rfl rfl (by kernel_rfl) (by kernel_rfl) Tryd.underlying3 Tryd.underlying3 Tryd.underlying24 rfl rfl rfl (by kernel_rfl) (by kernel_rfl) (by kernel_rfl) Tryd.underlying3 Tryd.underlying3 Tryd.underlying22
    (fun m _ cs x hh => open_tparts Tryd.underlying35 (by kernel_rfl) rfl rfl rfl rfl rfl rfl (by kernel_rfl) (by kernel_rfl) (by kernel_rfl) (by kernel_rfl) (by kernel_rfl) (by kernel_rfl) Tryd.underlying3 Tryd.underlying9 Tryd.underlying3 Tryd.underlying31 Tryd.underlying33 rfl rfl (by kernel_rfl) (by kernel_rfl) Tryd.underlying3 Tryd.underlying3 Tryd.underlying24 rfl rfl rfl (by kernel_rfl) (by kernel_rfl) (by kernel_rfl) Tryd.underlying3 Tryd.underlying3 Tryd.underlying22 m cs x hh) hf
  refine ⟨hd, ps, o1, l1, c1, o2, l2, c2, ?_, h1, h2, h3, h4⟩
  unfold tmv
  congr 1
  apply Array.toList_inj.1
  simpa [Value.cells] using he
end
end Go.Proofs.YtggidhgifaekbaaDoor
