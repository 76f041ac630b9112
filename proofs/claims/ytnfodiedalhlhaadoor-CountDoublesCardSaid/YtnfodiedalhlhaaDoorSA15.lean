/-
  Texts laid together (TyOpen, TeOpen, TeAppliesLaw, ScResLaw0, ScPut): what each one proves, and its conditions, stands at its head.
-/
import Derived.Deep.Slices
import Derived.Test.YtnfodiedalhlhaaDoorSA1
import Derived.Test.YtnfodiedalhlhaaDoorSA2
import Derived.Test.YtnfodiedalhlhaaDoorSA3
import Derived.Test.YtnfodiedalhlhaaDoorSA4
import Derived.Test.YtnfodiedalhlhaaDoorSA5
import Derived.Test.YtnfodiedalhlhaaDoorSA6
import Derived.Test.YtnfodiedalhlhaaDoorSA7
import Derived.Test.YtnfodiedalhlhaaDoorSA8
import Derived.Test.YtnfodiedalhlhaaDoorSA9
import Derived.Test.YtnfodiedalhlhaaDoorSA10
import Derived.Test.YtnfodiedalhlhaaDoorSA11
import Derived.Test.YtnfodiedalhlhaaDoorSA12
import Derived.Test.YtnfodiedalhlhaaDoorSA13
import Derived.Test.YtnfodiedalhlhaaDoorSA14
section
/-
  Types that came in as arguments: rows of types, however deep. No condition.
-/
namespace Go.Proofs.YtnfodiedalhlhaaDoor
open Go.ChangeShapes Go.WideShapes Go.ChangeAt Go.RowKit

theorem spot_none {w : World} {a : Addr} {v : Value} (h : w.cell? (a.add 0) = some v) : ∃ b off, a = ⟨b, off, none⟩ := by
  obtain ⟨b, off, s⟩ := a
  cases s with
  | none => exact ⟨b, off, rfl⟩
  | some s =>
    unfold World.cell? Addr.add at h
    simp only [if_true] at h
    split at h <;> simp_all
section
variable {H : Type} {enc : TypeId × Value → H} {P : Program} {w : World} {base : Nat} {spare : Nat → Bool} {held : Bool}
theorem at_of_cells {b off len : Nat} (one : ∀ i, i < len → ∃ k n o l c ps, w.cell? ⟨b, off + i * 3, none⟩ = some (.int .i64 k) ∧ w.cell? ⟨b, off + i * 3 + 1, none⟩ = some (.int .i64 n) ∧ w.cell? ⟨b, off + i * 3 + 2, none⟩ = some (.slice o l c) ∧ Slc w o l ps ∧ wfI n ∧ wfF ps) :
    ∀ m s, s + m = len → ∃ f : Fo, f.length = m ∧ At w b (off + s * 3) f ∧ wfF f
  | 0, s, _ => ⟨.nil, rfl, trivial, trivial⟩
  | m + 1, s, h => by
    obtain ⟨k, n, o, l, c, ps, h1, h2, h3, hs, hw, hwp⟩ := one s (by omega)
    obtain ⟨r, hr, ha, hwr⟩ := at_of_cells one m (s + 1) (by omega)
    refine ⟨.cons k n ps r, by simp [Fo.length, hr], ⟨h1, h2, ⟨o, l, c, h3, hs.1, hs.2.1, hs.2.2⟩, ?_⟩, hw, hwp, hwr⟩
    rw [show off + s * 3 + 3 = off + (s + 1) * 3 from by omega]
    exact ha
theorem open_parts {te : TypeId} {f0 f1 f2 : Field} (he : P.underlying te = some (.struct #[f0, f1, f2])) (ce : P.cellsOf te = 3)
    (o0 : f0.offset = 0) (o1 : f1.offset = 1) (o2 : f2.offset = 2) (c0 : P.cellsOf f0.type = 1) (c1 : P.cellsOf f1.type = 1) (c2 : P.cellsOf f2.type = 1) (k0 : P.underlying f0.type = some (.int .i64)) (k1 : P.underlying f1.type = some (.int .i64)) (k2 : P.underlying f2.type = some (.slice te)) :
    ∀ (fuel : Nat) (ts : TypeId) (cs : List Value) (x : DataW H × List MemPlace), P.underlying ts = some (.slice te) → DataW.trod enc P w base spare held fuel ts cs = some x → ∃ o len cap f, cs = [.slice o len cap] ∧ Slc w o len f ∧ wfF f := by
  intro fuel
  induction fuel using Nat.strongRecOn with
  | _ fuel ih =>
  intro ts cs x hts h
  rcases DataW.trod_slice hts h with ⟨rfl, _⟩ | ⟨a, len, cap, elems, rest, n, hfu, rfl, _, _, hl, hm, hlen, hel, _⟩
  · exact ⟨_, _, _, .nil, rfl, Slc.nil _ _, trivial⟩
  · have one : ∀ i, i < len → ∃ k n o l c ps, w.cell? (a.add (i * 3)) = some (.int .i64 k) ∧ w.cell? (a.add (i * 3 + 1)) = some (.int .i64 n) ∧ w.cell? (a.add (i * 3 + 2)) = some (.slice o l c) ∧ Slc w o l ps ∧ wfI n ∧ wfF ps := by
      intro i hi
      have h1 := hel i hi
      rw [List.getElem?_eq_getElem (by omega)] at h1
      obtain ⟨cs', h2, h3⟩ := Option.bind_eq_some_iff.1 h1
      rw [ce] at h2
      obtain ⟨_, hcl, hcell⟩ := World.cells?_some h2
      obtain ⟨xs, n', hn', _, _, hxl, hfx⟩ := DataW.trod_struct he h3
      match cs', hcl with
      | [u0, u1, u2], _ =>
        have hxl3 : xs.length = 3 := by simpa using hxl
        have s0 := hfx 0 f0 rfl
        have s1 := hfx 1 f1 rfl
        have s2 := hfx 2 f2 rfl
        rw [c0, o0, show xs[0]? = some (xs[0]'(by omega)) from by simp [hxl3]] at s0
        rw [c1, o1, show xs[1]? = some (xs[1]'(by omega)) from by simp [hxl3]] at s1
        rw [c2, o2, show xs[2]? = some (xs[2]'(by omega)) from by simp [hxl3]] at s2
        obtain ⟨z0, hz0, _, hw0⟩ := DataW.trod_int k0 s0
        obtain ⟨z1, hz1, _, hw1⟩ := DataW.trod_int k1 s1
        obtain ⟨o, l, c, ps, hz2, hps, hwp⟩ := ih n' (by omega) f2.type _ _ k2 s2
        simp at hz0 hz1 hz2
        have e1 := hcell 1 (by omega)
        have e2 := hcell 2 (by omega)
        simp [Deep.add_add] at e1 e2
        refine ⟨z0, z1, o, l, c, ps, ?_, ?_, ?_, hps, hw1, hwp⟩
        · have : (a.add (i * 3)).add 0 = a.add (i * 3) := by rw [Deep.add_add]; rfl
          rw [← this, hcell 0 (by omega)]; simp [hz0]
        · rw [e1, hz1]
        · rw [e2, hz2]
    by_cases h0 : len = 0
    · subst h0
      exact ⟨_, _, _, .nil, rfl, Slc.nil _ _, trivial⟩
    · obtain ⟨k, n, o, l, c, ps, h1, _⟩ := one 0 (by omega)
      rw [Nat.zero_mul] at h1
      obtain ⟨b, off, rfl⟩ := spot_none h1
      obtain ⟨f, hf, hA, hwf⟩ := at_of_cells (b := b) (off := off) (len := len) (w := w) (fun i hi => by
        obtain ⟨k, n, o, l, c, ps, h1, h2, h3, h4⟩ := one i hi
        exact ⟨k, n, o, l, c, ps, by simpa [Addr.add_lit] using h1, by simpa [Addr.add_lit, Nat.add_assoc] using h2, by simpa [Addr.add_lit, Nat.add_assoc] using h3, h4⟩) len 0 (by omega)
      rw [Nat.zero_mul, Nat.add_zero] at hA
      exact ⟨_, _, _, f, rfl, ⟨hf.symm, by omega, fun _ => ⟨b, off, rfl, hA⟩⟩, hwf⟩
theorem open_agg {te : TypeId} {f0 f1 f2 : Field} (he : P.underlying te = some (.struct #[f0, f1, f2])) (ce : P.cellsOf te = 3)
    (o0 : f0.offset = 0) (o1 : f1.offset = 1) (o2 : f2.offset = 2) (c0 : P.cellsOf f0.type = 1) (c1 : P.cellsOf f1.type = 1) (c2 : P.cellsOf f2.type = 1) (k0 : P.underlying f0.type = some (.int .i64)) (k1 : P.underlying f1.type = some (.int .i64)) (k2 : P.underlying f2.type = some (.slice te))
    {fuel : Nat} {cs : List Value} {x : DataW H × List MemPlace} (h : DataW.trod enc P w base spare held fuel te cs = some x) : ∃ k n o len cap f, cs = [.int .i64 k, .int .i64 n, .slice o len cap] ∧ Slc w o len f ∧ wfI n ∧ wfF f := by
  obtain ⟨xs, n', hn', _, hcl, hxl, hfx⟩ := DataW.trod_struct he h
  rw [ce] at hcl
  match cs, hcl with
  | [u0, u1, u2], _ =>
    have hxl3 : xs.length = 3 := by simpa using hxl
    have s0 := hfx 0 f0 rfl
    have s1 := hfx 1 f1 rfl
    have s2 := hfx 2 f2 rfl
    rw [c0, o0, show xs[0]? = some (xs[0]'(by omega)) from by simp [hxl3]] at s0
    rw [c1, o1, show xs[1]? = some (xs[1]'(by omega)) from by simp [hxl3]] at s1
    rw [c2, o2, show xs[2]? = some (xs[2]'(by omega)) from by simp [hxl3]] at s2
    obtain ⟨z0, hz0, _, hw0⟩ := DataW.trod_int k0 s0
    obtain ⟨z1, hz1, _, hw1⟩ := DataW.trod_int k1 s1
    obtain ⟨o, l, c, ps, hz2, hps, hwp⟩ := open_parts he ce o0 o1 o2 c0 c1 c2 k0 k1 k2 n' f2.type _ _ k2 s2
    simp at hz0 hz1 hz2
    exact ⟨z0, z1, o, l, c, ps, by rw [hz0, hz1, hz2], hps, hw1, hwp⟩
end
section
variable {H : Type} {enc : TypeId × Value → H} {w : World} {base : Nat} {spare : Nat → Bool} {held : Bool}
/-- an argument that is a row of types -/
theorem open_types {ts : TypeId} {v : Value} {d : DataW H} {p : List MemPlace} (ht : Tryd.prog.underlying ts = some (.slice 25)) (hv : ∃ a len cap, v = .slice a len cap) (h : DataW.Trod enc Tryd.prog w base spare held ts v d p) : ∃ o n c f, v = .slice o n c ∧ Slc w o n f ∧ wfF f ∧ n ≤ c := by
  obtain ⟨a0, l0, cc0, rfl⟩ := hv
  obtain ⟨fuel, hf⟩ := h
  have hlc : l0 ≤ cc0 := by
    rcases DataW.trod_slice ht hf with ⟨he, _⟩ | ⟨a, len, cap, _, _, _, _, he, _, _, hl, _⟩
    · simp [Value.cells] at he; omega
    · simp [Value.cells] at he; omega
  obtain ⟨o, n, c, f, he, hs, hw⟩ := open_parts Tryd.underlying25 (by kernel_rfl) rfl rfl rfl (by kernel_rfl) (by kernel_rfl) (by kernel_rfl) Tryd.underlying3 Tryd.underlying3 Tryd.underlying23 fuel ts _ _ ht hf
  simp [Value.cells] at he
  obtain ⟨rfl, rfl, rfl⟩ := he
  exact ⟨_, _, _, f, rfl, hs, hw, hlc⟩
/-- an argument that is a type -/
theorem open_type {v : Value} {d : DataW H} {p : List MemPlace} (hv : ∃ cs, v = .agg cs ∧ cs.size = Tryd.prog.cellsOf 25) (h : DataW.Trod enc Tryd.prog w base spare held 25 v d p) : ∃ k n o len cap f, v = tyv k n o len cap ∧ Slc w o len f ∧ wfI n ∧ wfF f := by
  obtain ⟨cs, rfl, _⟩ := hv
  obtain ⟨fuel, hf⟩ := h
  obtain ⟨k, n, o, len, cap, f, he, hs, hw, hwf⟩ := open_agg Tryd.underlying25 (by kernel_rfl) rfl rfl rfl (by kernel_rfl) (by kernel_rfl) (by kernel_rfl) Tryd.underlying3 Tryd.underlying3 Tryd.underlying23 hf
  refine ⟨k, n, o, len, cap, f, ?_, hs, hw, hwf⟩
  unfold tyv
  congr 1
  apply Array.toList_inj.1
  simpa [Value.cells] using he
end
end Go.Proofs.YtnfodiedalhlhaaDoor
end
section
/-
  Terms that came in as arguments: rows of terms, however deep. No condition.
-/
namespace Go.Proofs.YtnfodiedalhlhaaDoor
open Go.ChangeShapes Go.WideShapes Go.ChangeAt Go.RowKit

theorem At.atIn {w : World} : ∀ (f : Fo) (b off : Nat), At w b off f → AtIn (fun k => k < w.heap.size) w b off f
  | .nil, _, _, _ => trivial
  | .cons k n ps r, b, off, h => by
    obtain ⟨h1, h2, ⟨o, l, c, h3, h4, h5, h6⟩, h7⟩ := h
    refine ⟨World.block_lt_of_cell? w _ h1, h1, h2, ⟨o, l, c, h3, h4, h5, fun hl => ?_⟩, At.atIn r b (off + 3) h7⟩
    obtain ⟨b', off', ho, ha⟩ := h6 hl
    exact ⟨b', off', ho, At.atIn ps b' off' ha⟩
theorem Slc.slcIn {w : World} {o : Option Addr} {len : Nat} {f : Fo} (h : Slc w o len f) : SlcIn (fun k => k < w.heap.size) w o len f := by
  refine ⟨h.1, h.2.1, fun hl => ?_⟩
  obtain ⟨b, off, ho, ha⟩ := h.2.2 hl
  exact ⟨b, off, ho, ha.atIn⟩
/-- what an argument's head is sure to be -/
def OkO (h : Nd) : Prop := h.nm.size ≤ maxLen ∧ wfI h.tn ∧ wfF h.tp ∧ wfI h.n
section
variable {H : Type} {enc : TypeId × Value → H} {P : Program} {w : World} {base : Nat} {spare : Nat → Bool} {held : Bool}
abbrev Low (w : World) : Nat → Prop := fun k => k < w.heap.size
theorem tin_of_cells {b off len : Nat} (hb : Low w b) (one : ∀ i, i < len → ∃ hd ps o1 l1 c1 o2 l2 c2, Cells9 w b (off + i * 9) hd o1 l1 c1 o2 l2 c2 ∧ SlcIn (Low w) w o1 l1 hd.tp ∧ TSlc (Low w) w o2 l2 ps ∧ OkO hd ∧ allT OkO ps) :
    ∀ m s, s + m = len → ∃ f : To, f.length = m ∧ TIn (Low w) w b (off + s * 9) f ∧ allT OkO f
  | 0, s, _ => ⟨.nil, rfl, trivial, trivial⟩
  | m + 1, s, h => by
    obtain ⟨hd, ps, o1, l1, c1, o2, l2, c2, hc, hs1, hs2, hw, hwp⟩ := one s (by omega)
    obtain ⟨r, hr, ha, hwr⟩ := tin_of_cells hb one m (s + 1) (by omega)
    refine ⟨.cons hd ps r, by simp [To.length, hr], ⟨hb, ⟨o1, l1, c1, o2, l2, c2, hc, hs1, hs2.1, hs2.2.1, hs2.2.2⟩, ?_⟩, hw, hwp, hwr⟩
    rw [show off + s * 9 + 9 = off + (s + 1) * 9 from by omega]
    exact ha
/-- one term's cells, its parts given -/
theorem open_t9 {te : TypeId} {f0 f1 f2 f3 f4 f5 g0 g1 q0 q1 q2 : Field} (he : P.underlying te = some (.struct #[f0, f1, f2, f3, f4, f5])) (ce : P.cellsOf te = 9)
    (o0 : f0.offset = 0) (o1 : f1.offset = 1) (o2 : f2.offset = 2) (o3 : f3.offset = 3) (o4 : f4.offset = 6) (o5 : f5.offset = 7)
    (c0 : P.cellsOf f0.type = 1) (c1 : P.cellsOf f1.type = 1) (c2 : P.cellsOf f2.type = 1) (c3 : P.cellsOf f3.type = 3) (c4 : P.cellsOf f4.type = 1) (c5 : P.cellsOf f5.type = 2)
    (k0 : P.underlying f0.type = some (.int .i64)) (k1 : P.underlying f1.type = some .string) (k2 : P.underlying f2.type = some (.int .i64))
    (k5 : P.underlying f5.type = some (.struct #[g0, g1])) (p0 : g0.offset = 0) (p1 : g1.offset = 1) (d0 : P.cellsOf g0.type = 1) (d1 : P.cellsOf g1.type = 1) (m0 : P.underlying g0.type = some (.int .i64)) (m1 : P.underlying g1.type = some (.int .i64))
    (k3 : P.underlying f3.type = some (.struct #[q0, q1, q2])) (v0 : q0.offset = 0) (v1 : q1.offset = 1) (v2 : q2.offset = 2) (x0 : P.cellsOf q0.type = 1) (x1 : P.cellsOf q1.type = 1) (x2 : P.cellsOf q2.type = 1) (y0 : P.underlying q0.type = some (.int .i64)) (y1 : P.underlying q1.type = some (.int .i64)) (y2 : P.underlying q2.type = some (.slice f3.type))
    {n : Nat} (ih : ∀ m, m < n → ∀ cs x, DataW.trod enc P w base spare held m f4.type cs = some x → ∃ o len cap f, cs = [.slice o len cap] ∧ TSlc (Low w) w o len f ∧ allT OkO f)
    {cs : List Value} {x : DataW H × List MemPlace} (h : DataW.trod enc P w base spare held n te cs = some x) :
    ∃ hd ps o1 l1 c1 o2 l2 c2, cs = (cells9 hd o1 l1 c1 o2 l2 c2).toList ∧ SlcIn (Low w) w o1 l1 hd.tp ∧ TSlc (Low w) w o2 l2 ps ∧ OkO hd ∧ allT OkO ps := by
  obtain ⟨xs, n', hn', _, hcl, hxl, hfx⟩ := DataW.trod_struct he h
  rw [ce] at hcl
  match cs, hcl with
  | [u0, u1, u2, u3, u4, u5, u6, u7, u8], _ =>
    have hxl6 : xs.length = 6 := by simpa using hxl
    have s0 := hfx 0 f0 rfl
    have s1 := hfx 1 f1 rfl
    have s2 := hfx 2 f2 rfl
    have s3 := hfx 3 f3 rfl
    have s4 := hfx 4 f4 rfl
    have s5 := hfx 5 f5 rfl
    rw [c0, o0, show xs[0]? = some (xs[0]'(by omega)) from by simp [hxl6]] at s0
    rw [c1, o1, show xs[1]? = some (xs[1]'(by omega)) from by simp [hxl6]] at s1
    rw [c2, o2, show xs[2]? = some (xs[2]'(by omega)) from by simp [hxl6]] at s2
    rw [c3, o3, show xs[3]? = some (xs[3]'(by omega)) from by simp [hxl6]] at s3
    rw [c4, o4, show xs[4]? = some (xs[4]'(by omega)) from by simp [hxl6]] at s4
    rw [c5, o5, show xs[5]? = some (xs[5]'(by omega)) from by simp [hxl6]] at s5
    obtain ⟨z0, hz0, _, hw0⟩ := DataW.trod_int k0 s0
    obtain ⟨z1, hz1, _, hw1⟩ := DataW.trod_string k1 s1
    obtain ⟨z2, hz2, _, hw2⟩ := DataW.trod_int k2 s2
    obtain ⟨tk, tn, tO, tl, tc, tf, hz3, hts, hwt, hwf⟩ := open_agg k3 c3 v0 v1 v2 x0 x1 x2 y0 y1 y2 s3
    obtain ⟨o, l, c, ps, hz4, hps, hwp⟩ := ih n' (by omega) _ _ s4
    obtain ⟨ys, n2, hn2, _, hyc, hyl, hgy⟩ := DataW.trod_struct k5 s5
    have hyl2 : ys.length = 2 := by simpa using hyl
    have t0 := hgy 0 g0 rfl
    have t1 := hgy 1 g1 rfl
    rw [d0, p0, show ys[0]? = some (ys[0]'(by omega)) from by simp [hyl2]] at t0
    rw [d1, p1, show ys[1]? = some (ys[1]'(by omega)) from by simp [hyl2]] at t1
    obtain ⟨z7, hz7, _, _⟩ := DataW.trod_int m0 t0
    obtain ⟨z8, hz8, _, _⟩ := DataW.trod_int m1 t1
    simp at hz0 hz1 hz2 hz3 hz4 hz7 hz8
    obtain ⟨hz3, hz3', hz3''⟩ := hz3
    refine ⟨⟨z0, z1, z2, tk, tn, tf, z7, z8⟩, ps, tO, tl, tc, o, l, c, ?_, hts.slcIn, hps, ⟨hw1, hwt, hwf, hw2⟩, hwp⟩
    subst hz0 hz1 hz2 hz3 hz3' hz3'' hz4 hz7 hz8
    rfl
theorem open_tparts {te : TypeId} {f0 f1 f2 f3 f4 f5 g0 g1 q0 q1 q2 : Field} (he : P.underlying te = some (.struct #[f0, f1, f2, f3, f4, f5])) (ce : P.cellsOf te = 9)
    (o0 : f0.offset = 0) (o1 : f1.offset = 1) (o2 : f2.offset = 2) (o3 : f3.offset = 3) (o4 : f4.offset = 6) (o5 : f5.offset = 7)
    (c0 : P.cellsOf f0.type = 1) (c1 : P.cellsOf f1.type = 1) (c2 : P.cellsOf f2.type = 1) (c3 : P.cellsOf f3.type = 3) (c4 : P.cellsOf f4.type = 1) (c5 : P.cellsOf f5.type = 2)
    (k0 : P.underlying f0.type = some (.int .i64)) (k1 : P.underlying f1.type = some .string) (k2 : P.underlying f2.type = some (.int .i64)) (k4 : P.underlying f4.type = some (.slice te))
    (k5 : P.underlying f5.type = some (.struct #[g0, g1])) (p0 : g0.offset = 0) (p1 : g1.offset = 1) (d0 : P.cellsOf g0.type = 1) (d1 : P.cellsOf g1.type = 1) (m0 : P.underlying g0.type = some (.int .i64)) (m1 : P.underlying g1.type = some (.int .i64))
    (k3 : P.underlying f3.type = some (.struct #[q0, q1, q2])) (v0 : q0.offset = 0) (v1 : q1.offset = 1) (v2 : q2.offset = 2) (x0 : P.cellsOf q0.type = 1) (x1 : P.cellsOf q1.type = 1) (x2 : P.cellsOf q2.type = 1) (y0 : P.underlying q0.type = some (.int .i64)) (y1 : P.underlying q1.type = some (.int .i64)) (y2 : P.underlying q2.type = some (.slice f3.type)) :
    ∀ (fuel : Nat) (cs : List Value) (x : DataW H × List MemPlace), DataW.trod enc P w base spare held fuel f4.type cs = some x → ∃ o len cap f, cs = [.slice o len cap] ∧ TSlc (Low w) w o len f ∧ allT OkO f := by
  intro fuel
  induction fuel using Nat.strongRecOn with
  | _ fuel ih =>
  intro cs x h
  rcases DataW.trod_slice k4 h with ⟨rfl, _⟩ | ⟨a, len, cap, elems, rest, n, hfu, rfl, _, _, hl, hm, hlen, hel, _⟩
  · exact ⟨_, _, _, .nil, rfl, TSlc.nil _ _ _, trivial⟩
  · have one : ∀ i, i < len → ∃ hd ps o1 l1 c1 o2 l2 c2, (∀ j, j < 9 → w.cell? (a.add (i * 9 + j)) = (cells9 hd o1 l1 c1 o2 l2 c2).toList[j]?) ∧ SlcIn (Low w) w o1 l1 hd.tp ∧ TSlc (Low w) w o2 l2 ps ∧ OkO hd ∧ allT OkO ps := by
      intro i hi
      have h1 := hel i hi
      rw [List.getElem?_eq_getElem (by omega)] at h1
      obtain ⟨cs', h2, h3⟩ := Option.bind_eq_some_iff.1 h1
      rw [ce] at h2
      obtain ⟨_, hcl, hcell⟩ := World.cells?_some h2
      obtain ⟨hd, ps, r1, l1, e1, r2, l2, e2, rfl, hs1, hs2, hw, hwp⟩ := open_t9 he ce o0 o1 o2 o3 o4 o5 c0 c1 c2 c3 c4 c5 k0 k1 k2 k5 p0 p1 d0 d1 m0 m1 k3 v0 v1 v2 x0 x1 x2 y0 y1 y2 (fun m hm cs x => ih m (by omega) cs x) h3
      refine ⟨hd, ps, r1, l1, e1, r2, l2, e2, ?_, hs1, hs2, hw, hwp⟩
      intro j hj
      rw [← Deep.add_add]
      exact hcell j hj
    by_cases h0 : len = 0
    · subst h0
      exact ⟨_, _, _, .nil, rfl, TSlc.nil _ _ _, trivial⟩
    · obtain ⟨hd, ps, r1, l1, e1, r2, l2, e2, h1, _⟩ := one 0 (by omega)
      have h1' := h1 0 (by omega)
      rw [Nat.zero_mul] at h1'
      obtain ⟨b, off, rfl⟩ := spot_none (v := .int .i64 hd.k) h1'
      have hb : Low w b := World.block_lt_of_cell? w (⟨b, off + 0, none⟩ : Addr) (show w.cell? ⟨b, off + 0, none⟩ = some (.int .i64 hd.k) from h1')
      obtain ⟨f, hf, hA, hwf⟩ := tin_of_cells (b := b) (off := off) (len := len) (w := w) hb (fun i hi => by
        obtain ⟨hd, ps, r1, l1, e1, r2, l2, e2, h1, h4⟩ := one i hi
        refine ⟨hd, ps, r1, l1, e1, r2, l2, e2, ?_, h4⟩
        have g := fun j hj => h1 j hj
        simp only [Addr.add_lit] at g
        exact ⟨g 0 (by omega), g 1 (by omega), g 2 (by omega), g 3 (by omega), g 4 (by omega), g 5 (by omega), g 6 (by omega), g 7 (by omega), g 8 (by omega)⟩) len 0 (by omega)
      rw [Nat.zero_mul, Nat.add_zero] at hA
      exact ⟨_, _, _, f, rfl, ⟨hf.symm, by omega, fun _ => ⟨b, off, rfl, hA⟩⟩, hwf⟩
end
section
variable {H : Type} {enc : TypeId × Value → H} {w : World} {base : Nat} {spare : Nat → Bool} {held : Bool}
/-- an argument that is a row of terms -/
theorem open_terms {v : Value} {d : DataW H} {p : List MemPlace} (hv : ∃ a len cap, v = .slice a len cap) (h : DataW.Trod enc Tryd.prog w base spare held 26 v d p) : ∃ o n c f, v = .slice o n c ∧ TSlc (Low w) w o n f ∧ allT OkO f ∧ n ≤ c := by
  obtain ⟨a0, l0, cc0, rfl⟩ := hv
  obtain ⟨fuel, hf⟩ := h
  have hlc : l0 ≤ cc0 := by
    rcases DataW.trod_slice Tryd.underlying26 hf with ⟨he, _⟩ | ⟨a, len, cap, _, _, _, _, he, _, _, hl, _⟩
    · simp [Value.cells] at he; omega
    · simp [Value.cells] at he; omega
  obtain ⟨o, n, c, f, he, hs, hw⟩ := open_tparts Tryd.underlying30 (by kernel_rfl) rfl rfl rfl rfl rfl rfl (by kernel_rfl) (by kernel_rfl) (by kernel_rfl) (by kernel_rfl) (by kernel_rfl) (by kernel_rfl) Tryd.underlying3 Tryd.underlying9 Tryd.underlying3 Tryd.underlying26 Tryd.underlying28 rfl rfl (by kernel_rfl) (by kernel_rfl) Tryd.underlying3 Tryd.underlying3 Tryd.underlying25 rfl rfl rfl (by kernel_rfl) (by kernel_rfl) (by kernel_rfl) Tryd.underlying3 Tryd.underlying3 Tryd.underlying23 fuel _ _ hf
  simp [Value.cells] at he
  obtain ⟨rfl, rfl, rfl⟩ := he
  exact ⟨_, _, _, f, rfl, hs, hw, hlc⟩
/-- an argument that is a term -/
theorem open_term {v : Value} {d : DataW H} {p : List MemPlace} (hv : ∃ cs, v = .agg cs ∧ cs.size = Tryd.prog.cellsOf 30) (h : DataW.Trod enc Tryd.prog w base spare held 30 v d p) : ∃ hd ps o1 l1 c1 o2 l2 c2, v = tmv hd o1 l1 c1 o2 l2 c2 ∧ SlcIn (Low w) w o1 l1 hd.tp ∧ TSlc (Low w) w o2 l2 ps ∧ OkO hd ∧ allT OkO ps := by
  obtain ⟨cs, rfl, _⟩ := hv
  obtain ⟨fuel, hf⟩ := h
  obtain ⟨hd, ps, o1, l1, c1, o2, l2, c2, he, h1, h2, h3, h4⟩ := open_t9 Tryd.underlying30 (by kernel_rfl) rfl rfl rfl rfl rfl rfl (by kernel_rfl) (by kernel_rfl) (by kernel_rfl) (by kernel_rfl) (by kernel_rfl) (by kernel_rfl) Tryd.underlying3 Tryd.underlying9 Tryd.underlying3 Tryd.underlying28 rfl rfl (by kernel_rfl) (by kernel_rfl) Tryd.underlying3 Tryd.underlying3 Tryd.underlying25 rfl rfl rfl (by kernel_rfl) (by kernel_rfl) (by kernel_rfl) Tryd.underlying3 Tryd.underlying3 Tryd.underlying23
    (fun m _ cs x hh => open_tparts Tryd.underlying30 (by kernel_rfl) rfl rfl rfl rfl rfl rfl (by kernel_rfl) (by kernel_rfl) (by kernel_rfl) (by kernel_rfl) (by kernel_rfl) (by kernel_rfl) Tryd.underlying3 Tryd.underlying9 Tryd.underlying3 Tryd.underlying26 Tryd.underlying28 rfl rfl (by kernel_rfl) (by kernel_rfl) Tryd.underlying3 Tryd.underlying3 Tryd.underlying25 rfl rfl rfl (by kernel_rfl) (by kernel_rfl) (by kernel_rfl) Tryd.underlying3 Tryd.underlying3 Tryd.underlying23 m cs x hh) hf
  refine ⟨hd, ps, o1, l1, c1, o2, l2, c2, ?_, h1, h2, h3, h4⟩
  unfold tmv
  congr 1
  apply Array.toList_inj.1
  simpa [Value.cells] using he
end
end Go.Proofs.YtnfodiedalhlhaaDoor
end
section
/-
  The law TermApplies: it returns true. Conditions: the terms lie in memory as told; the table of blanks holds what its initialiser lays.
-/
namespace Go.Proofs.YtnfodiedalhlhaaDoor
open Go.RowKit Go.Shelf

theorem headB_refl (all : Bool) (h : Nd) : headB all h h = true := by
  unfold headB sameT
  cases all <;> simp [Fo.same_refl]
theorem alikeT_refl (all : Bool) (h : Nd) (ps : To) : alikeT all h ps h ps = true := by
  unfold alikeT
  rw [headB_refl, To.alike_refl (headB_refl all)]; rfl
/-- the law's loop is at its head: what it wants lies in its box -/
structure TlRel (B : Nat) (W0 wr : World) (g : Nd) (gs : To) : Prop where
  box : ∃ p1 m1 d1 p2 m2 d2, wr.heap[B]? = some (.cells (cells9 g p1 m1 d1 p2 m2 d2) 30 (0, 0)) ∧ SlcIn (fun k => k ≠ B) wr p1 m1 g.tp ∧ TSlc (fun k => k ≠ B) wr p2 m2 gs
  fr : Fr (fun k => k = B) W0 wr
theorem TlRel.first {B : Nat} {W0 wr : World} {hd : Nd} {qs : To} {u1 : Option Addr} {v1 t1 : Nat} {u2 : Option Addr} {v2 t2 : Nat} (hf : Fr (fun k => k = B) W0 wr)
    {b0 b1 b2 b3 b4 b5 b6 b7 b8 : Value} (hb : wr.heap[B]? = some (.cells #[b0, b1, b2, b3, b4, b5, b6, b7, b8] 30 (0, 0))) (h1 : SlcIn (fun k => k ≠ B) wr u1 v1 hd.tp) (h2 : TSlc (fun k => k ≠ B) wr u2 v2 qs) :
    TlRel B W0 (put9 wr B (.int .i64 hd.k) (.string hd.nm) (.int .i64 hd.n) (.int .i64 hd.tk) (.int .i64 hd.tn) (.slice u1 v1 t1) (.slice u2 v2 t2) (.int .i64 hd.fr) (.int .i64 hd.en)) hd qs :=
  ⟨⟨u1, v1, t1, u2, v2, t2, put9_block hb, h1.fr (put9_fr _ _ _ _ _ _ _ _ _ _ _) (fun _ _ h => ⟨h, h⟩), h2.fr (put9_fr _ _ _ _ _ _ _ _ _ _ _) (fun _ _ h => ⟨h, h⟩)⟩, hf.trans (put9_fr _ _ _ _ _ _ _ _ _ _ _)⟩
theorem TlRel.next {B : Nat} {W0 wr : World} {g hd : Nd} {gs qs : To} {p1 : Option Addr} {m1 d1 : Nat} {p2 : Option Addr} {m2 d2 : Nat} {u1 : Option Addr} {v1 t1 : Nat} {u2 : Option Addr} {v2 t2 : Nat} (hf : Fr (fun k => k = B) W0 wr)
    (hb : wr.heap[B]? = some (.cells (cells9 g p1 m1 d1 p2 m2 d2) 30 (0, 0))) (hp1 : SlcIn (fun k => k ≠ B) wr p1 m1 g.tp) (hp2 : TSlc (fun k => k ≠ B) wr p2 m2 gs) (h1 : SlcIn (fun k => k ≠ B) wr u1 v1 hd.tp) (h2 : TSlc (fun k => k ≠ B) wr u2 v2 qs) :
    TlRel B W0 ((put9 wr B (.int .i64 5) (.string ⟨#[]⟩) (.int .i64 0) (.int .i64 0) (.int .i64 0) (.slice none 0 0) (.slice (some ⟨wr.heap.size, 0, none⟩) 2 2) (.int .i64 0) (.int .i64 0)).alloc (.cells (cells18 g p1 m1 d1 p2 m2 d2 hd u1 v1 t1 u2 v2 t2) 30)) appNd (.cons g gs (.cons hd qs .nil)) := by
  have hput := put9_fr wr B (.int .i64 5) (.string ⟨#[]⟩) (.int .i64 0) (.int .i64 0) (.int .i64 0) (.slice none 0 0) (.slice (some ⟨wr.heap.size, 0, none⟩) 2 2) (.int .i64 0) (.int .i64 0)
  have hbl := put9_block (a0 := .int .i64 5) (a1 := .string ⟨#[]⟩) (a2 := .int .i64 0) (a3 := .int .i64 0) (a4 := .int .i64 0) (a5 := .slice none 0 0) (a6 := .slice (some ⟨wr.heap.size, 0, none⟩) 2 2) (a7 := .int .i64 0) (a8 := .int .i64 0) hb
  have hsz := put9_size wr B (.int .i64 5) (.string ⟨#[]⟩) (.int .i64 0) (.int .i64 0) (.int .i64 0) (.slice none 0 0) (.slice (some ⟨wr.heap.size, 0, none⟩) 2 2) (.int .i64 0) (.int .i64 0)
  generalize (put9 wr B (.int .i64 5) (.string ⟨#[]⟩) (.int .i64 0) (.int .i64 0) (.int .i64 0) (.slice none 0 0) (.slice (some ⟨wr.heap.size, 0, none⟩) 2 2) (.int .i64 0) (.int .i64 0)) = wp at *
  have hnew := heap_alloc_new wp (.cells (cells18 g p1 m1 d1 p2 m2 d2 hd u1 v1 t1 u2 v2 t2) 30)
  rw [hsz] at hnew
  have hl3 := lt_of_block hb
  have ha := Quiet0.alloc wp (.cells (cells18 g p1 m1 d1 p2 m2 d2 hd u1 v1 t1 u2 v2 t2) 30)
  refine ⟨⟨none, 0, 0, some ⟨wr.heap.size, 0, none⟩, 2, 2, ?_, SlcIn.nil _ _ _, ?_⟩, ?_⟩
  · rw [Below.heap_alloc _ _ _ (by rw [hsz]; exact hl3)]; exact hbl
  · refine slc9two hnew (by omega) ?_ ?_ ?_ ?_
    · exact (hp1.fr hput (fun k _ h => ⟨h, h⟩)).stay ha
    · exact (hp2.fr hput (fun k _ h => ⟨h, h⟩)).stay ha
    · exact (h1.fr hput (fun k _ h => ⟨h, h⟩)).stay ha
    · exact (h2.fr hput (fun k _ h => ⟨h, h⟩)).stay ha
  · exact (hf.trans hput).trans ha.fr
theorem TlRel.drew {B : Nat} {W0 wr : World} {g : Nd} {gs : To} (h : TlRel B W0 wr g gs) : TlRel B W0 wr.drew g gs := by
  obtain ⟨⟨p1, m1, d1, p2, m2, d2, h1, h2, h3⟩, h4⟩ := h
  exact ⟨⟨p1, m1, d1, p2, m2, d2, blk_drew h1, h2.stay (Quiet0.drew _), h3.stay (Quiet0.drew _)⟩, h4.trans (Fr.drew _ _)⟩
theorem allT_of_get {G : Nd → Prop} : ∀ (f : To), (∀ i h ps, f.get i = some (h, ps) → G h ∧ allT G ps) → allT G f
  | .nil, _ => trivial
  | .cons h ps r, e => ⟨(e 0 h ps rfl).1, (e 0 h ps rfl).2, allT_of_get r (fun i h' ps' g => e (i + 1) h' ps' g)⟩
theorem size_of_get {m : Nat} : ∀ (f : To), (∀ i h ps, f.get i = some (h, ps) → ps.size + 1 ≤ m) → f.size ≤ m * f.length
  | .nil, _ => Nat.zero_le _
  | .cons h ps r, e => by
    have h1 := e 0 h ps rfl
    have h2 := size_of_get r (fun i h' ps' g => e (i + 1) h' ps' g)
    simp only [To.size, To.length, Nat.mul_add]
    omega
theorem get_lt : ∀ (f : To) (i : Nat) (h : Nd) (ps : To), f.get i = some (h, ps) → i < f.length
  | .nil, i, h, ps, e => by simp [To.get] at e
  | .cons _ _ r, 0, h, ps, _ => by simp [To.length]
  | .cons _ _ r, i + 1, h, ps, e => by have := get_lt r i h ps e; simp only [To.length]; omega
end Go.Proofs.YtnfodiedalhlhaaDoor
end
section
/-
  The law ScopeResolves, its lighter ways: too great a term, one that is not right. Conditions: the term lies in memory as told; the table of blanks holds what its initialiser lays.
-/
namespace Go.Proofs.YtnfodiedalhlhaaDoor
open Go.RowKit Go.Shelf
namespace Sc

theorem sc_allT_and {G H : Nd → Prop} : ∀ f : To, allT G f → allT H f → allT (fun h => G h ∧ H h) f
  | .nil, _, _ => trivial
  | .cons _ ps r, e, e' => ⟨⟨e.1, e'.1⟩, sc_allT_and ps e.2.1 e'.2.1, sc_allT_and r e.2.2 e'.2.2⟩
/-- what is sure of a term that is not too great -/
structure Small (h : Nd) (ps : To) : Prop where
  good : allT GoodH (.cons h ps .nil)
  right : GoodR h ∧ allT GoodR ps
  size : ps.size ≤ 199
theorem small_of {h : Nd} {ps : To} (hg : greatTm h ps = false) (ho : OkO h) (hop : allT OkO ps) : Small h ps := by
  have ga := greatTm_no hg
  have ba := bigH_no ga.1
  have hall := sc_allT_and ps hop (allT_mono (fun h hh => bigH_no hh) _ ga.2.1)
  exact ⟨⟨⟨by omega, by omega, ho.2.1, ho.2.2.1⟩, allT_mono (fun h hh => ⟨by have := hh.2.1; omega, by have := hh.2.2; omega, hh.1.2.1, hh.1.2.2.1⟩) _ hall, trivial⟩,
    ⟨⟨by omega, by omega, ho.2.2.2⟩, allT_mono (fun h hh => ⟨by have := hh.2.1; omega, by have := hh.2.2; omega, hh.1.2.2.2⟩) _ hall⟩, by omega⟩
theorem great8_any (h : Nd) (ps : To) (w W : World) (o1 : Option Addr) (l1 c1 : Nat) (o2 : Option Addr) (l2 c2 : Nat) (h1 : SlcIn (Low w) w o1 l1 h.tp) (h2 : TSlc (Low w) w o2 l2 ps) (ho : OkO h) (hop : allT OkO ps) (hq : Quiet0 w W) :
    Calls Tryd.prog 15 #[tmv h o1 l1 c1 o2 l2 c2] W fun e w' => e = .returned (.bool (greatTm h ps)) ∧ Quiet0 W w' :=
  greatTm_any h ps W (Low w) o1 l1 c1 o2 l2 c2 (h1.stay hq) (h2.stay hq) (by have := ho.1; unfold maxLen at this; omega) (allT_mono (fun h hh => by have := hh.1; unfold maxLen at this; omega) _ hop)
abbrev agz : Value := .agg #[.int .i64 0, .string ⟨#[]⟩, .int .i64 0, .int .i64 0, .int .i64 0, .slice none 0 0, .slice none 0 0, .int .i64 0, .int .i64 0]
theorem equal_zero (W : World) (u1 : Option Addr) (e1 : Nat) (u2 : Option Addr) (e2 : Nat) : Calls Tryd.prog 17 #[.agg #[.int .i64 zeroN.k, .string zeroN.nm, .int .i64 zeroN.n, .int .i64 zeroN.tk, .int .i64 zeroN.tn, .slice u1 0 e1, .slice u2 0 e2, .int .i64 zeroN.fr, .int .i64 zeroN.en], agz] W fun e w' => e = .returned (.bool true) ∧ Quiet0 W w' := by
  have h := refEqualT_any zeroN .nil zeroN .nil W (fun _ => True) u1 0 e1 u2 0 e2 none 0 0 none 0 0 (SlcIn.nil _ _ _) (TSlc.nil _ _ _) (SlcIn.nil _ _ _) (TSlc.nil _ _ _)
  rw [alikeT_refl] at h; exact h
/-- a row of no texts -/
theorem st_none {W : World} {x : Ending} {w' : World} (h : StPost W [] x w') : ∃ o c, x = .returned (.slice o 0 c) ∧ Quiet0 W w' := by
  obtain ⟨v, rfl, hr, hq⟩ := h
  obtain ⟨o, c, rfl, _, _⟩ := hr.form
  exact ⟨o, c, rfl, hq⟩
/-- a row of texts -/
theorem st_some {W : World} {l : List ByteArray} {x : Ending} {w' : World} (h : StPost W l x w') : ∃ o c, x = .returned (.slice o l.length c) ∧ StrAt w' o l ∧ Quiet0 W w' := by
  obtain ⟨v, rfl, hr, hq⟩ := h
  obtain ⟨o, c, rfl, _, h3⟩ := hr.form
  exact ⟨o, c, rfl, h3, hq⟩
set_option maxRecDepth 100000 in
set_option maxHeartbeats 4000000 in
theorem sr_great (h : Nd) (ps : To) (w : World) (o1 : Option Addr) (l1 c1 : Nat) (o2 : Option Addr) (l2 c2 : Nat) (h1 : SlcIn (Low w) w o1 l1 h.tp) (h2 : TSlc (Low w) w o2 l2 ps) (ho : OkO h) (hop : allT OkO ps) (ht : Lx.Spaces w) (hg : greatTm h ps = true) :
    Calls Tryd.prog 4 #[tmv h o1 l1 c1 o2 l2 c2] w fun e w' => e = .returned (.bool true) ∧ Quiet0 w w' := by
  obtain ⟨W0, hW0⟩ : ∃ W0, W0 = w.alloc (.cells (cells9 h o1 l1 c1 o2 l2 c2) 30) := ⟨_, rfl⟩
  have hq0 : Quiet0 w W0 := by rw [hW0]; exact Quiet0.alloc _ _
  have HQ0 := Lib.hid hq0
  have HC : Hid (∀ W, Quiet0 W0 W → Cells9 W w.heap.size 0 h o1 l1 c1 o2 l2 c2) := by
    intro W hq; rw [hW0] at hq; exact box9 w h o1 l1 c1 o2 l2 c2 _ W hq
  have HG := Lib.hid (great8_any h ps w W0 o1 l1 c1 o2 l2 c2 h1 h2 ho hop hq0)
  rw [hg] at HG
  have HA : Hid (∀ W, Quiet0 W0 W → Calls Tryd.prog 11 #[] W fun e w' => e = .returned (.bool true) ∧ Quiet0 W w') := fun W hq => awake8_any W (ht.stay (hq0.trans hq))
  clear h1 h2 ho hop ht hg hq0
  unfold tmv at HG ⊢
  go_enter Tryd.func4, Tryd.ntmps4
  go_upto_region 1 with fail
  rw [← hW0]
  clear hW0
  obtain ⟨a0, a1, a2, a3, a4, a5, a6, a7, a8⟩ := HC.out W0 (Quiet0.refl _)
  go_wp2_with fail
  refine HG.out.mono ?_; rintro x w1 ⟨rfl, hq1⟩
  have HQ1 := Lib.hid hq1
  clear hq1 a0 a1 a2 a3 a4 a5 a6 a7 a8
  go_wp2_with fail
  refine (HA.out _ HQ1.out).mono ?_; rintro x w2 ⟨rfl, hq2⟩
  have HQ2 := Lib.hid hq2
  clear hq2
  go_wp2_with fail
  go_ret
  exact ⟨rfl, HQ0.out.trans (HQ1.out.trans HQ2.out)⟩
set_option maxRecDepth 100000 in
set_option maxHeartbeats 8000000 in
theorem sr_wrong (h : Nd) (ps : To) (w : World) (o1 : Option Addr) (l1 c1 : Nat) (o2 : Option Addr) (l2 c2 : Nat) (h1 : SlcIn (Low w) w o1 l1 h.tp) (h2 : TSlc (Low w) w o2 l2 ps) (ho : OkO h) (hop : allT OkO ps) (ht : Lx.Spaces w) (hg : greatTm h ps = false) (hr : RT h ps = false) :
    Calls Tryd.prog 4 #[tmv h o1 l1 c1 o2 l2 c2] w fun e w' => e = .returned (.bool true) ∧ Quiet0 w w' := by
  have hsm := small_of hg ho hop
  obtain ⟨W0, hW0⟩ : ∃ W0, W0 = w.alloc (.cells (cells9 h o1 l1 c1 o2 l2 c2) 30) := ⟨_, rfl⟩
  have hq0 : Quiet0 w W0 := by rw [hW0]; exact Quiet0.alloc _ _
  have HQ0 := Lib.hid hq0
  have HC : Hid (∀ W, Quiet0 W0 W → Cells9 W w.heap.size 0 h o1 l1 c1 o2 l2 c2) := by
    intro W hq; rw [hW0] at hq; exact box9 w h o1 l1 c1 o2 l2 c2 _ W hq
  have HG := Lib.hid (great8_any h ps w W0 o1 l1 c1 o2 l2 c2 h1 h2 ho hop hq0)
  rw [hg] at HG
  have HA : Hid (∀ W, Quiet0 W0 W → Calls Tryd.prog 11 #[] W fun e w' => e = .returned (.bool true) ∧ Quiet0 W w') := fun W hq => awake8_any W (ht.stay (hq0.trans hq))
  have HRS : Hid (∀ W, Quiet0 W0 W → Calls Tryd.prog 13 #[tmv h o1 l1 c1 o2 l2 c2] W (RsvQ W h ps)) := fun W hq => resolve_any h ps W _ o1 l1 c1 o2 l2 c2 (h1.stay (hq0.trans hq)) (h2.stay (hq0.trans hq)) (by have := hsm.size; omega) hsm.good (ht.stay (hq0.trans hq))
  have HRV : Hid (rsvP h ps = ((zeroN, .nil), (0, 0), 1)) := by show _ = _; unfold rsvP; rw [hr]; rfl
  have HRR : Hid (∀ W, Quiet0 W0 W → Calls Tryd.prog 16 #[tmv h o1 l1 c1 o2 l2 c2] W fun e w' => e = .returned (.bool false) ∧ Quiet0 W w') := fun W hq => by
    have := refRightT_any h ps W _ o1 l1 c1 o2 l2 c2 (h1.stay (hq0.trans hq)) (h2.stay (hq0.trans hq)) hsm.right.1 hsm.right.2
    rw [show allS (.cons h ps .nil) = false from hr] at this
    exact this
  have HFN : Hid (∀ W, Quiet0 W0 W → Calls Tryd.prog 18 #[tmv h o1 l1 c1 o2 l2 c2] W fun e w' => ∃ o c, e = .returned (.slice o 0 c) ∧ Quiet0 W w') := fun W hq => (freeN_any h ps W _ o1 l1 c1 o2 l2 c2 (h1.stay (hq0.trans hq)) (h2.stay (hq0.trans hq)) (by have := hsm.size; omega) hsm.good (ht.stay (hq0.trans hq))).mono (fun e w' hp => st_none (by rw [show freeN h ps = [] from by unfold freeN; rw [hr]; rfl] at hp; exact hp))
  have HBN : Hid (∀ W, Quiet0 W0 W → Calls Tryd.prog 19 #[tmv h o1 l1 c1 o2 l2 c2] W fun e w' => ∃ o c, e = .returned (.slice o 0 c) ∧ Quiet0 W w') := fun W hq => (boundN_any h ps W _ o1 l1 c1 o2 l2 c2 (h1.stay (hq0.trans hq)) (h2.stay (hq0.trans hq)) (by have := hsm.size; omega) hsm.good (ht.stay (hq0.trans hq))).mono (fun e w' hp => st_none (by rw [show boundN h ps = [] from by unfold boundN; rw [hr]; rfl] at hp; exact hp))
  clear h1 h2 ho hop ht hg hq0 hsm hr
  unfold tmv at HG HRS HRR HFN HBN ⊢
  go_enter Tryd.func4, Tryd.ntmps4
  go_upto_region 1 with fail
  rw [← hW0]
  clear hW0
  generalize w.heap.size = B at *
  obtain ⟨a0, a1, a2, a3, a4, a5, a6, a7, a8⟩ := HC.out W0 (Quiet0.refl _)
  go_wp2_with fail
  refine HG.out.mono ?_; rintro x w1 ⟨rfl, hq1⟩
  have HQ1 := Lib.hid hq1
  clear hq1 a0 a1 a2 a3 a4 a5 a6 a7 a8
  obtain ⟨a0, a1, a2, a3, a4, a5, a6, a7, a8⟩ := HC.out w1 HQ1.out
  go_wp2_with fail
  refine (HRS.out _ HQ1.out).mono ?_; rintro x w2 ⟨g, gs, q1, m1, d1, q2, m2, d2, p, er, rfl, hrv, hg1, hg2, hq2⟩
  rw [HRV.out] at hrv
  obtain ⟨hr1, hr2⟩ := Prod.mk.inj hrv
  obtain ⟨hr3, hr4⟩ := Prod.mk.inj hr1
  obtain ⟨hr5, hr6⟩ := Prod.mk.inj hr2
  subst hr3 hr4 hr5 hr6
  obtain rfl : m1 = 0 := hg1.1
  obtain rfl : m2 = 0 := hg2.1
  have HQ2 := Lib.hid (HQ1.out.trans hq2)
  clear hrv hr1 hr2 hg1 hg2 hq2 a0 a1 a2 a3 a4 a5 a6 a7 a8
  unfold tmv
  obtain ⟨W3, hW3⟩ : ∃ W3, W3 = (w2.alloc (.cells (cells9 zeroN q1 0 d1 q2 0 d2) 30)).alloc (.cells #[.int .i64 0, .int .i64 0] 28) := ⟨_, rfl⟩
  have hq3 : Quiet0 w2 W3 := by rw [hW3]; exact (Quiet0.alloc _ _).trans (Quiet0.alloc _ _)
  have hb3 : W3.heap[w2.heap.size]? = some (.cells (cells9 zeroN q1 0 d1 q2 0 d2) 30 (0, 0)) := by
    rw [hW3, Below.heap_alloc _ _ _ (by simp)]; exact heap_alloc_new w2 _
  have hs3 : W3.heap[w2.heap.size + 1]? = some (.cells #[.int .i64 0, .int .i64 0] 28 (0, 0)) := by
    rw [hW3]
    have := heap_alloc_new (w2.alloc (.cells (cells9 zeroN q1 0 d1 q2 0 d2) 30)) (.cells #[.int .i64 0, .int .i64 0] 28)
    simpa using this
  have HU : Hid (∀ W, Quiet0 W3 W → Cells9 W w2.heap.size 0 zeroN q1 0 d1 q2 0 d2 ∧ W.cell? ⟨w2.heap.size + 1, 0, none⟩ = some (.int .i64 0) ∧ W.cell? ⟨w2.heap.size + 1, 1, none⟩ = some (.int .i64 0)) := fun W hq => ⟨(cells9_block hb3).fr hq (fun h => h), (span_cells (blk_after hq hs3)).1, (span_cells (blk_after hq hs3)).2.1⟩
  have HQ3 := Lib.hid (HQ2.out.trans hq3)
  clear hq3 hb3 hs3
  go_upto_region 4 with fail
  change Code.wp _ _ _ _ ((w2.alloc (.cells (cells9 zeroN q1 0 d1 q2 0 d2) 30)).alloc (.cells #[.int .i64 0, .int .i64 0] 28))
  rw [← hW3]
  clear hW3
  generalize w2.heap.size = ub at *
  obtain ⟨a0, a1, a2, a3, a4, a5, a6, a7, a8⟩ := HC.out W3 HQ3.out
  go_wp2_with fail
  refine (HRR.out _ HQ3.out).mono ?_; rintro x w4 ⟨rfl, hq4⟩
  have HQ4 := Lib.hid (HQ3.out.trans hq4)
  have HK : Hid (∀ W, Quiet0 w4 W → Quiet0 W0 W) := fun W hq => HQ4.out.trans hq
  have HS : Hid (∀ W, Quiet0 w4 W → (W.cell? ⟨B, 0, none⟩ = some (.int .i64 h.k) ∧ W.cell? ⟨B, 1, none⟩ = some (.string h.nm) ∧ W.cell? ⟨B, 2, none⟩ = some (.int .i64 h.n) ∧ W.cell? ⟨B, 3, none⟩ = some (.int .i64 h.tk) ∧ W.cell? ⟨B, 4, none⟩ = some (.int .i64 h.tn) ∧ W.cell? ⟨B, 5, none⟩ = some (.slice o1 l1 c1) ∧ W.cell? ⟨B, 6, none⟩ = some (.slice o2 l2 c2) ∧ W.cell? ⟨B, 7, none⟩ = some (.int .i64 h.fr) ∧ W.cell? ⟨B, 8, none⟩ = some (.int .i64 h.en)) ∧ (W.cell? ⟨ub, 0, none⟩ = some (.int .i64 zeroN.k) ∧ W.cell? ⟨ub, 1, none⟩ = some (.string zeroN.nm) ∧ W.cell? ⟨ub, 2, none⟩ = some (.int .i64 zeroN.n) ∧ W.cell? ⟨ub, 3, none⟩ = some (.int .i64 zeroN.tk) ∧ W.cell? ⟨ub, 4, none⟩ = some (.int .i64 zeroN.tn) ∧ W.cell? ⟨ub, 5, none⟩ = some (.slice q1 0 d1) ∧ W.cell? ⟨ub, 6, none⟩ = some (.slice q2 0 d2) ∧ W.cell? ⟨ub, 7, none⟩ = some (.int .i64 zeroN.fr) ∧ W.cell? ⟨ub, 8, none⟩ = some (.int .i64 zeroN.en)) ∧ W.cell? ⟨ub + 1, 0, none⟩ = some (.int .i64 0) ∧ W.cell? ⟨ub + 1, 1, none⟩ = some (.int .i64 0)) := fun W hq => ⟨HC.out W (HQ4.out.trans hq), HU.out W (hq4.trans hq)⟩
  clear hq4 a0 a1 a2 a3 a4 a5 a6 a7 a8
  go_upto_region 5 with fail
  have hqc := Quiet0.refl w4
  go_region_held3 (fun W => (W.cell? ⟨B, 0, none⟩ = some (.int .i64 h.k) ∧ W.cell? ⟨B, 1, none⟩ = some (.string h.nm) ∧ W.cell? ⟨B, 2, none⟩ = some (.int .i64 h.n) ∧ W.cell? ⟨B, 3, none⟩ = some (.int .i64 h.tk) ∧ W.cell? ⟨B, 4, none⟩ = some (.int .i64 h.tn) ∧ W.cell? ⟨B, 5, none⟩ = some (.slice o1 l1 c1) ∧ W.cell? ⟨B, 6, none⟩ = some (.slice o2 l2 c2) ∧ W.cell? ⟨B, 7, none⟩ = some (.int .i64 h.fr) ∧ W.cell? ⟨B, 8, none⟩ = some (.int .i64 h.en)) ∧ (W.cell? ⟨ub, 0, none⟩ = some (.int .i64 zeroN.k) ∧ W.cell? ⟨ub, 1, none⟩ = some (.string zeroN.nm) ∧ W.cell? ⟨ub, 2, none⟩ = some (.int .i64 zeroN.n) ∧ W.cell? ⟨ub, 3, none⟩ = some (.int .i64 zeroN.tk) ∧ W.cell? ⟨ub, 4, none⟩ = some (.int .i64 zeroN.tn) ∧ W.cell? ⟨ub, 5, none⟩ = some (.slice q1 0 d1) ∧ W.cell? ⟨ub, 6, none⟩ = some (.slice q2 0 d2) ∧ W.cell? ⟨ub, 7, none⟩ = some (.int .i64 zeroN.fr) ∧ W.cell? ⟨ub, 8, none⟩ = some (.int .i64 zeroN.en)) ∧ W.cell? ⟨ub + 1, 0, none⟩ = some (.int .i64 0) ∧ W.cell? ⟨ub + 1, 1, none⟩ = some (.int .i64 0))
    (((refine HS.out _ ?_); (repeat (first | with_reducible exact hqc | with_reducible exact Quiet0.refl _ | with_reducible refine Quiet0.trans ?_ (Quiet0.alloc _ _) | with_reducible refine Quiet0.trans ?_ (Quiet0.drew _) | fail))))
    (first
      | (go_at_call 17; (with_reducible refine Calls.mono (equal_zero _ _ _ _ _) ?_); rintro e wx ⟨rfl, hqx⟩; (refine with_q (w0 := w4) ?hq2 hqx ?_); (case hq2 => (repeat (first | with_reducible exact hqc | with_reducible exact Quiet0.refl _ | with_reducible refine Quiet0.trans ?_ (Quiet0.alloc _ _) | with_reducible refine Quiet0.trans ?_ (Quiet0.drew _) | fail))); intro hqc)
      | (go_at_call 18; (with_reducible refine Calls.mono (HFN.out _ (HK.out _ ?hq)) ?_); (case hq => (repeat (first | with_reducible exact hqc | with_reducible exact Quiet0.refl _ | with_reducible refine Quiet0.trans ?_ (Quiet0.alloc _ _) | with_reducible refine Quiet0.trans ?_ (Quiet0.drew _) | fail))); rintro e wx ⟨fo, fc, rfl, hqx⟩; (refine with_q (w0 := w4) ?hq2 hqx ?_); (case hq2 => (repeat (first | with_reducible exact hqc | with_reducible exact Quiet0.refl _ | with_reducible refine Quiet0.trans ?_ (Quiet0.alloc _ _) | with_reducible refine Quiet0.trans ?_ (Quiet0.drew _) | fail))); intro hqc)
      | (go_at_call 19; (with_reducible refine Calls.mono (HBN.out _ (HK.out _ ?hq)) ?_); (case hq => (repeat (first | with_reducible exact hqc | with_reducible exact Quiet0.refl _ | with_reducible refine Quiet0.trans ?_ (Quiet0.alloc _ _) | with_reducible refine Quiet0.trans ?_ (Quiet0.drew _) | fail))); rintro e wx ⟨bo, bc, rfl, hqx⟩; (refine with_q (w0 := w4) ?hq2 hqx ?_); (case hq2 => (repeat (first | with_reducible exact hqc | with_reducible exact Quiet0.refl _ | with_reducible refine Quiet0.trans ?_ (Quiet0.alloc _ _) | with_reducible refine Quiet0.trans ?_ (Quiet0.drew _) | fail))); intro hqc)
      | (go_at_call 11; (with_reducible refine Calls.mono (HA.out _ (HK.out _ ?hq)) ?_); (case hq => (repeat (first | with_reducible exact hqc | with_reducible exact Quiet0.refl _ | with_reducible refine Quiet0.trans ?_ (Quiet0.alloc _ _) | with_reducible refine Quiet0.trans ?_ (Quiet0.drew _) | fail))); rintro e wx ⟨rfl, hqx⟩; (refine with_q (w0 := w4) ?hq2 hqx ?_); (case hq2 => (repeat (first | with_reducible exact hqc | with_reducible exact Quiet0.refl _ | with_reducible refine Quiet0.trans ?_ (Quiet0.alloc _ _) | with_reducible refine Quiet0.trans ?_ (Quiet0.drew _) | fail))); intro hqc)
      | fail)
  all_goals
    go_wp2_with fail
    go_ret
    exact ⟨rfl, HQ0.out.trans (HQ4.out.trans hqc)⟩
end Sc
end Go.Proofs.YtnfodiedalhlhaaDoor
end
section
/-
  A term of a row written anew, in place. No condition.
-/
namespace Go.Proofs.YtnfodiedalhlhaaDoor
open Go.RowKit Go.Shelf
namespace Sc

theorem setc {w : World} {b i j : Nat} {u v : Value} (h : w.cell? ⟨b, j, none⟩ = some u) : (w.setCell ⟨b, i, none⟩ v).cell? ⟨b, j, none⟩ = some (if i = j then v else u) := by
  by_cases e : i = j
  · subst e; rw [if_pos rfl]; exact World.cell?_setCell_same _ _ _ h
  · rw [if_neg e, World.cell?_setCell_other _ _ _ _ (by intro h; injection h with h1 h2; exact e h2)]; exact h
theorem setc_same {w : World} {b i : Nat} {u v : Value} (h : w.cell? ⟨b, i, none⟩ = some u) : (w.setCell ⟨b, i, none⟩ v).cell? ⟨b, i, none⟩ = some v := World.cell?_setCell_same _ _ _ h
theorem setc_ne {w : World} {b i j : Nat} {u v : Value} (e : i ≠ j) (h : w.cell? ⟨b, j, none⟩ = some u) : (w.setCell ⟨b, i, none⟩ v).cell? ⟨b, j, none⟩ = some u := by rw [World.cell?_setCell_other _ _ _ _ (by intro h; injection h with h1 h2; exact e h2)]; exact h
theorem put9at_cells {w : World} {b off : Nat} {h h' : Nd} {o1 : Option Addr} {l1 c1 : Nat} {o2 : Option Addr} {l2 c2 : Nat} {p1 : Option Addr} {m1 d1 : Nat} {p2 : Option Addr} {m2 d2 : Nat} (hc : Cells9 w b off h o1 l1 c1 o2 l2 c2) :
    Cells9 (put9at w b off (.int .i64 h'.k) (.string h'.nm) (.int .i64 h'.n) (.int .i64 h'.tk) (.int .i64 h'.tn) (.slice p1 m1 d1) (.slice p2 m2 d2) (.int .i64 h'.fr) (.int .i64 h'.en)) b off h' p1 m1 d1 p2 m2 d2 := by
  obtain ⟨h0, h1, h2, h3, h4, h5, h6, h7, h8⟩ := hc
  refine ⟨?_, ?_, ?_, ?_, ?_, ?_, ?_, ?_, ?_⟩
  · exact setc_ne (by omega) (setc_ne (by omega) (setc_ne (by omega) (setc_ne (by omega) (setc_ne (by omega) (setc_ne (by omega) (setc_ne (by omega) (setc_ne (by omega) (setc_same h0))))))))
  · exact setc_ne (by omega) (setc_ne (by omega) (setc_ne (by omega) (setc_ne (by omega) (setc_ne (by omega) (setc_ne (by omega) (setc_ne (by omega) (setc_same (setc_ne (by omega) h1))))))))
  · exact setc_ne (by omega) (setc_ne (by omega) (setc_ne (by omega) (setc_ne (by omega) (setc_ne (by omega) (setc_ne (by omega) (setc_same (setc_ne (by omega) (setc_ne (by omega) h2))))))))
  · exact setc_ne (by omega) (setc_ne (by omega) (setc_ne (by omega) (setc_ne (by omega) (setc_ne (by omega) (setc_same (setc_ne (by omega) (setc_ne (by omega) (setc_ne (by omega) h3))))))))
  · exact setc_ne (by omega) (setc_ne (by omega) (setc_ne (by omega) (setc_ne (by omega) (setc_same (setc_ne (by omega) (setc_ne (by omega) (setc_ne (by omega) (setc_ne (by omega) h4))))))))
  · exact setc_ne (by omega) (setc_ne (by omega) (setc_ne (by omega) (setc_same (setc_ne (by omega) (setc_ne (by omega) (setc_ne (by omega) (setc_ne (by omega) (setc_ne (by omega) h5))))))))
  · exact setc_ne (by omega) (setc_ne (by omega) (setc_same (setc_ne (by omega) (setc_ne (by omega) (setc_ne (by omega) (setc_ne (by omega) (setc_ne (by omega) (setc_ne (by omega) h6))))))))
  · exact setc_ne (by omega) (setc_same (setc_ne (by omega) (setc_ne (by omega) (setc_ne (by omega) (setc_ne (by omega) (setc_ne (by omega) (setc_ne (by omega) (setc_ne (by omega) h7))))))))
  · exact setc_same (setc_ne (by omega) (setc_ne (by omega) (setc_ne (by omega) (setc_ne (by omega) (setc_ne (by omega) (setc_ne (by omega) (setc_ne (by omega) (setc_ne (by omega) h8))))))))
theorem put9at_other (w : World) (b off : Nat) (a0 a1 a2 a3 a4 a5 a6 a7 a8 : Value) (c : Nat) (h : c < off ∨ off + 9 ≤ c) : (put9at w b off a0 a1 a2 a3 a4 a5 a6 a7 a8).cell? ⟨b, c, none⟩ = w.cell? ⟨b, c, none⟩ := by
  have key : ∀ (w : World) (j : Nat) (v : Value), j < 9 → (w.setCell ⟨b, off + j, none⟩ v).cell? ⟨b, c, none⟩ = w.cell? ⟨b, c, none⟩ := fun w j v hj => World.cell?_setCell_other _ _ _ _ (by intro h'; injection h' with h1 h2; omega)
  exact (key _ 8 _ (by omega)).trans ((key _ 7 _ (by omega)).trans ((key _ 6 _ (by omega)).trans ((key _ 5 _ (by omega)).trans ((key _ 4 _ (by omega)).trans ((key _ 3 _ (by omega)).trans ((key _ 2 _ (by omega)).trans ((key _ 1 _ (by omega)).trans (key _ 0 _ (by omega)))))))))
theorem termB_frozen {w : World} {b : Nat} (h : TermB w b) (i : Nat) : w.frozen? ⟨b, i, none⟩ = false := by
  obtain ⟨cur, hc⟩ := h
  simp [World.frozen?, hc]
theorem put9at_termB {w : World} {b g off : Nat} (h : TermB w b) (a0 a1 a2 a3 a4 a5 a6 a7 a8 : Value) : TermB (put9at w g off a0 a1 a2 a3 a4 a5 a6 a7 a8) b := by
  have key : ∀ (w : World) (j : Nat) (v : Value), TermB w b → TermB (w.setCell ⟨g, j, none⟩ v) b := fun w j v h => by
    by_cases e : g = b
    · subst e; exact h.set
    · exact h.fr (Fr.setCell (fun k => k = g) w ⟨g, j, none⟩ v rfl) (fun h => e h.symm)
  exact key _ _ _ (key _ _ _ (key _ _ _ (key _ _ _ (key _ _ _ (key _ _ _ (key _ _ _ (key _ _ _ (key _ _ _ h))))))))
end Sc
end Go.Proofs.YtnfodiedalhlhaaDoor
end
