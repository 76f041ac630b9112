/-
  Texts laid together (TeOpen, TeAppliesLaw, ScResLaw0, ScBareW, TeSame, TeEqualP): laws and walks, with their conditions in their statements.
-/
import Derived.Deep.RegionWith
import Derived.Test.YtnfodiedalhlhaaDoorRN22
section
namespace Go.Proofs.YtnfodiedalhlhaaDoor
open Go.ChangeShapes Go.WideShapes Go.ChangeAt Go.RowKit
theorem At.atIn {w : World} : ∀ (f : Fo) (b off : Nat), At w b off f → AtIn (fun k => k < w.heap.size) w b off f
  | .nil, _, _, _ => trivial
  | .cons k n ps r, b, off, h => by
    obtain ⟨h1, h2, ⟨o, l, c, h3, h4, h5, h6⟩, h7⟩ := h
    refine ⟨World.block_lt_of_cell? w _ h1, h1, h2, ⟨o, l, c, h3, h4, h5, fun hl => ?_⟩, At.atIn r b (off + 3) h7⟩
    obtain ⟨b', off', ho, ha⟩ := h6 hl
    exact ⟨b', off', ho, At.atIn ps b' off' ha⟩
theorem Slc.slcIn {w : World} {o : Option Addr} {len : Nat} {f : Fo} (h : Slc w o len f) : SlcIn (fun k => k < w.heap.size) w o len f := by
  refine ⟨h.1, h.2.1, fun hl => ?_⟩
  obtain ⟨b, off, ho, ha⟩ := h.2.2 hl
  exact ⟨b, off, ho, ha.atIn⟩
def OkO (h : Nd) : Prop := h.nm.size ≤ maxLen ∧ wfI h.tn ∧ wfF h.tp ∧ wfI h.n
section
variable {H : Type} {enc : TypeId × Value → H} {P : Program} {w : World} {base : Nat} {spare : Nat → Bool} {held : Bool}
abbrev Low (w : World) : Nat → Prop := fun k => k < w.heap.size
theorem tin_of_cells {b off len : Nat} (hb : Low w b) (one : ∀ i, i < len → ∃ hd ps o1 l1 c1 o2 l2 c2, Cells9 w b (off + i * 9) hd o1 l1 c1 o2 l2 c2 ∧ SlcIn (Low w) w o1 l1 hd.tp ∧ TSlc (Low w) w o2 l2 ps ∧ OkO hd ∧ allT OkO ps) :
    ∀ m s, s + m = len → ∃ f : To, f.length = m ∧ TIn (Low w) w b (off + s * 9) f ∧ allT OkO f
  | 0, s, _ => ⟨.nil, rfl, trivial, trivial⟩
  | m + 1, s, h => by
    obtain ⟨hd, ps, o1, l1, c1, o2, l2, c2, hc, hs1, hs2, hw, hwp⟩ := one s (by omega)
    obtain ⟨r, hr, ha, hwr⟩ := tin_of_cells hb one m (s + 1) (by omega)
    refine ⟨.cons hd ps r, by simp [To.length, hr], ⟨hb, ⟨o1, l1, c1, o2, l2, c2, hc, hs1, hs2.1, hs2.2.1, hs2.2.2⟩, ?_⟩, hw, hwp, hwr⟩
    rw [show off + s * 9 + 9 = off + (s + 1) * 9 from by omega]
    exact ha
theorem open_t9 {te : TypeId} {f0 f1 f2 f3 f4 f5 g0 g1 q0 q1 q2 : Field} (he : P.underlying te = some (.struct #[f0, f1, f2, f3, f4, f5])) (ce : P.cellsOf te = 9)
    (o0 : f0.offset = 0) (o1 : f1.offset = 1) (o2 : f2.offset = 2) (o3 : f3.offset = 3) (o4 : f4.offset = 6) (o5 : f5.offset = 7)
    (c0 : P.cellsOf f0.type = 1) (c1 : P.cellsOf f1.type = 1) (c2 : P.cellsOf f2.type = 1) (c3 : P.cellsOf f3.type = 3) (c4 : P.cellsOf f4.type = 1) (c5 : P.cellsOf f5.type = 2)
    (k0 : P.underlying f0.type = some (.int .i64)) (k1 : P.underlying f1.type = some .string) (k2 : P.underlying f2.type = some (.int .i64))
    (k5 : P.underlying f5.type = some (.struct #[g0, g1])) (p0 : g0.offset = 0) (p1 : g1.offset = 1) (d0 : P.cellsOf g0.type = 1) (d1 : P.cellsOf g1.type = 1) (m0 : P.underlying g0.type = some (.int .i64)) (m1 : P.underlying g1.type = some (.int .i64))
    (k3 : P.underlying f3.type = some (.struct #[q0, q1, q2])) (v0 : q0.offset = 0) (v1 : q1.offset = 1) (v2 : q2.offset = 2) (x0 : P.cellsOf q0.type = 1) (x1 : P.cellsOf q1.type = 1) (x2 : P.cellsOf q2.type = 1) (y0 : P.underlying q0.type = some (.int .i64)) (y1 : P.underlying q1.type = some (.int .i64)) (y2 : P.underlying q2.type = some (.slice f3.type))
    {n : Nat} (ih : ∀ m, m < n → ∀ cs x, DataW.trod enc P w base spare held m f4.type cs = some x → ∃ o len cap f, cs = [.slice o len cap] ∧ TSlc (Low w) w o len f ∧ allT OkO f)
    {cs : List Value} {x : DataW H × List MemPlace} (h : DataW.trod enc P w base spare held n te cs = some x) :
    ∃ hd ps o1 l1 c1 o2 l2 c2, cs = (cells9 hd o1 l1 c1 o2 l2 c2).toList ∧ SlcIn (Low w) w o1 l1 hd.tp ∧ TSlc (Low w) w o2 l2 ps ∧ OkO hd ∧ allT OkO ps := by
  obtain ⟨xs, n', hn', _, hcl, hxl, hfx⟩ := DataW.trod_struct he h
  rw [ce] at hcl
  match cs, hcl with
  | [u0, u1, u2, u3, u4, u5, u6, u7, u8], _ =>
    have hxl6 : xs.length = 6 := by simpa using hxl
    have s0 := hfx 0 f0 rfl
    have s1 := hfx 1 f1 rfl
    have s2 := hfx 2 f2 rfl
    have s3 := hfx 3 f3 rfl
    have s4 := hfx 4 f4 rfl
    have s5 := hfx 5 f5 rfl
    rw [c0, o0, show xs[0]? = some (xs[0]'(by omega)) from by simp [hxl6]] at s0
    rw [c1, o1, show xs[1]? = some (xs[1]'(by omega)) from by simp [hxl6]] at s1
    rw [c2, o2, show xs[2]? = some (xs[2]'(by omega)) from by simp [hxl6]] at s2
    rw [c3, o3, show xs[3]? = some (xs[3]'(by omega)) from by simp [hxl6]] at s3
    rw [c4, o4, show xs[4]? = some (xs[4]'(by omega)) from by simp [hxl6]] at s4
    rw [c5, o5, show xs[5]? = some (xs[5]'(by omega)) from by simp [hxl6]] at s5
    obtain ⟨z0, hz0, _, hw0⟩ := DataW.trod_int k0 s0
    obtain ⟨z1, hz1, _, hw1⟩ := DataW.trod_string k1 s1
    obtain ⟨z2, hz2, _, hw2⟩ := DataW.trod_int k2 s2
    obtain ⟨tk, tn, tO, tl, tc, tf, hz3, hts, hwt, hwf⟩ := open_agg k3 c3 v0 v1 v2 x0 x1 x2 y0 y1 y2 s3
    obtain ⟨o, l, c, ps, hz4, hps, hwp⟩ := ih n' (by omega) _ _ s4
    obtain ⟨ys, n2, hn2, _, hyc, hyl, hgy⟩ := DataW.trod_struct k5 s5
    have hyl2 : ys.length = 2 := by simpa using hyl
    have t0 := hgy 0 g0 rfl
    have t1 := hgy 1 g1 rfl
    rw [d0, p0, show ys[0]? = some (ys[0]'(by omega)) from by simp [hyl2]] at t0
    rw [d1, p1, show ys[1]? = some (ys[1]'(by omega)) from by simp [hyl2]] at t1
    obtain ⟨z7, hz7, _, _⟩ := DataW.trod_int m0 t0
    obtain ⟨z8, hz8, _, _⟩ := DataW.trod_int m1 t1
    simp at hz0 hz1 hz2 hz3 hz4 hz7 hz8
    obtain ⟨hz3, hz3', hz3''⟩ := hz3
    refine ⟨⟨z0, z1, z2, tk, tn, tf, z7, z8⟩, ps, tO, tl, tc, o, l, c, ?_, hts.slcIn, hps, ⟨hw1, hwt, hwf, hw2⟩, hwp⟩
    subst hz0 hz1 hz2 hz3 hz3' hz3'' hz4 hz7 hz8
    rfl
theorem open_tparts {te : TypeId} {f0 f1 f2 f3 f4 f5 g0 g1 q0 q1 q2 : Field} (he : P.underlying te = some (.struct #[f0, f1, f2, f3, f4, f5])) (ce : P.cellsOf te = 9)
    (o0 : f0.offset = 0) (o1 : f1.offset = 1) (o2 : f2.offset = 2) (o3 : f3.offset = 3) (o4 : f4.offset = 6) (o5 : f5.offset = 7)
    (c0 : P.cellsOf f0.type = 1) (c1 : P.cellsOf f1.type = 1) (c2 : P.cellsOf f2.type = 1) (c3 : P.cellsOf f3.type = 3) (c4 : P.cellsOf f4.type = 1) (c5 : P.cellsOf f5.type = 2)
    (k0 : P.underlying f0.type = some (.int .i64)) (k1 : P.underlying f1.type = some .string) (k2 : P.underlying f2.type = some (.int .i64)) (k4 : P.underlying f4.type = some (.slice te))
    (k5 : P.underlying f5.type = some (.struct #[g0, g1])) (p0 : g0.offset = 0) (p1 : g1.offset = 1) (d0 : P.cellsOf g0.type = 1) (d1 : P.cellsOf g1.type = 1) (m0 : P.underlying g0.type = some (.int .i64)) (m1 : P.underlying g1.type = some (.int .i64))
    (k3 : P.underlying f3.type = some (.struct #[q0, q1, q2])) (v0 : q0.offset = 0) (v1 : q1.offset = 1) (v2 : q2.offset = 2) (x0 : P.cellsOf q0.type = 1) (x1 : P.cellsOf q1.type = 1) (x2 : P.cellsOf q2.type = 1) (y0 : P.underlying q0.type = some (.int .i64)) (y1 : P.underlying q1.type = some (.int .i64)) (y2 : P.underlying q2.type = some (.slice f3.type)) :
    ∀ (fuel : Nat) (cs : List Value) (x : DataW H × List MemPlace), DataW.trod enc P w base spare held fuel f4.type cs = some x → ∃ o len cap f, cs = [.slice o len cap] ∧ TSlc (Low w) w o len f ∧ allT OkO f := by
  intro fuel
  induction fuel using Nat.strongRecOn with
  | _ fuel ih =>
  intro cs x h
  rcases DataW.trod_slice k4 h with ⟨rfl, _⟩ | ⟨a, len, cap, elems, rest, n, hfu, rfl, _, _, hl, hm, hlen, hel, _⟩
  · exact ⟨_, _, _, .nil, rfl, TSlc.nil _ _ _, trivial⟩
  · have one : ∀ i, i < len → ∃ hd ps o1 l1 c1 o2 l2 c2, (∀ j, j < 9 → w.cell? (a.add (i * 9 + j)) = (cells9 hd o1 l1 c1 o2 l2 c2).toList[j]?) ∧ SlcIn (Low w) w o1 l1 hd.tp ∧ TSlc (Low w) w o2 l2 ps ∧ OkO hd ∧ allT OkO ps := by
      intro i hi
      have h1 := hel i hi
      rw [List.getElem?_eq_getElem (by omega)] at h1
      obtain ⟨cs', h2, h3⟩ := Option.bind_eq_some_iff.1 h1
      rw [ce] at h2
      obtain ⟨_, hcl, hcell⟩ := World.cells?_some h2
      obtain ⟨hd, ps, r1, l1, e1, r2, l2, e2, rfl, hs1, hs2, hw, hwp⟩ := open_t9 he ce o0 o1 o2 o3 o4 o5 c0 c1 c2 c3 c4 c5 k0 k1 k2 k5 p0 p1 d0 d1 m0 m1 k3 v0 v1 v2 x0 x1 x2 y0 y1 y2 (fun m hm cs x => ih m (by omega) cs x) h3
      refine ⟨hd, ps, r1, l1, e1, r2, l2, e2, ?_, hs1, hs2, hw, hwp⟩
      intro j hj
      rw [← Deep.add_add]
      exact hcell j hj
    by_cases h0 : len = 0
    · subst h0
      exact ⟨_, _, _, .nil, rfl, TSlc.nil _ _ _, trivial⟩
    · obtain ⟨hd, ps, r1, l1, e1, r2, l2, e2, h1, _⟩ := one 0 (by omega)
      have h1' := h1 0 (by omega)
      rw [Nat.zero_mul] at h1'
      obtain ⟨b, off, rfl⟩ := spot_none (v := .int .i64 hd.k) h1'
      have hb : Low w b := World.block_lt_of_cell? w (⟨b, off + 0, none⟩ : Addr) (show w.cell? ⟨b, off + 0, none⟩ = some (.int .i64 hd.k) from h1')
      obtain ⟨f, hf, hA, hwf⟩ := tin_of_cells (b := b) (off := off) (len := len) (w := w) hb (fun i hi => by
        obtain ⟨hd, ps, r1, l1, e1, r2, l2, e2, h1, h4⟩ := one i hi
        refine ⟨hd, ps, r1, l1, e1, r2, l2, e2, ?_, h4⟩
        have g := fun j hj => h1 j hj
        simp only [Addr.add_lit] at g
        exact ⟨g 0 (by omega), g 1 (by omega), g 2 (by omega), g 3 (by omega), g 4 (by omega), g 5 (by omega), g 6 (by omega), g 7 (by omega), g 8 (by omega)⟩) len 0 (by omega)
      rw [Nat.zero_mul, Nat.add_zero] at hA
      exact ⟨_, _, _, f, rfl, ⟨hf.symm, by omega, fun _ => ⟨b, off, rfl, hA⟩⟩, hwf⟩
end
section
variable {H : Type} {enc : TypeId × Value → H} {w : World} {base : Nat} {spare : Nat → Bool} {held : Bool}
theorem open_term {v : Value} {d : DataW H} {p : List MemPlace} (hv : ∃ cs, v = .agg cs ∧ cs.size = Tryd.prog.cellsOf 30) (h : DataW.Trod enc Tryd.prog w base spare held 30 v d p) : ∃ hd ps o1 l1 c1 o2 l2 c2, v = tmv hd o1 l1 c1 o2 l2 c2 ∧ SlcIn (Low w) w o1 l1 hd.tp ∧ TSlc (Low w) w o2 l2 ps ∧ OkO hd ∧ allT OkO ps := by
  obtain ⟨cs, rfl, _⟩ := hv
  obtain ⟨fuel, hf⟩ := h
  obtain ⟨hd, ps, o1, l1, c1, o2, l2, c2, he, h1, h2, h3, h4⟩ := open_t9 Tryd.underlying30 (by kernel_rfl) rfl rfl rfl rfl rfl rfl (by kernel_rfl) (by kernel_rfl) (by kernel_rfl) (by kernel_rfl) (by kernel_rfl) (by kernel_rfl) Tryd.underlying3 Tryd.underlying9 Tryd.underlying3 Tryd.underlying28 rfl rfl (by kernel_rfl) (by kernel_rfl) Tryd.underlying3 Tryd.underlying3 Tryd.underlying25 rfl rfl rfl (by kernel_rfl) (by kernel_rfl) (by kernel_rfl) Tryd.underlying3 Tryd.underlying3 Tryd.underlying23
    (fun m _ cs x hh => open_tparts Tryd.underlying30 (by kernel_rfl) rfl rfl rfl rfl rfl rfl (by kernel_rfl) (by kernel_rfl) (by kernel_rfl) (by kernel_rfl) (by kernel_rfl) (by kernel_rfl) Tryd.underlying3 Tryd.underlying9 Tryd.underlying3 Tryd.underlying26 Tryd.underlying28 rfl rfl (by kernel_rfl) (by kernel_rfl) Tryd.underlying3 Tryd.underlying3 Tryd.underlying25 rfl rfl rfl (by kernel_rfl) (by kernel_rfl) (by kernel_rfl) Tryd.underlying3 Tryd.underlying3 Tryd.underlying23 m cs x hh) hf
  refine ⟨hd, ps, o1, l1, c1, o2, l2, c2, ?_, h1, h2, h3, h4⟩
  unfold tmv
  congr 1
  apply Array.toList_inj.1
  simpa [Value.cells] using he
end
end Go.Proofs.YtnfodiedalhlhaaDoor
end
section
namespace Go.Proofs.YtnfodiedalhlhaaDoor
open Go.RowKit Go.Shelf
theorem headB_refl (all : Bool) (h : Nd) : headB all h h = true := by
  unfold headB sameT
  cases all <;> simp [Fo.same_refl]
theorem alikeT_refl (all : Bool) (h : Nd) (ps : To) : alikeT all h ps h ps = true := by
  unfold alikeT
  rw [headB_refl, To.alike_refl (headB_refl all)]; rfl
end Go.Proofs.YtnfodiedalhlhaaDoor
end
section
namespace Go.Proofs.YtnfodiedalhlhaaDoor
open Go.RowKit Go.Shelf
namespace Sc
theorem sc_allT_and {G H : Nd → Prop} : ∀ f : To, allT G f → allT H f → allT (fun h => G h ∧ H h) f
  | .nil, _, _ => trivial
  | .cons _ ps r, e, e' => ⟨⟨e.1, e'.1⟩, sc_allT_and ps e.2.1 e'.2.1, sc_allT_and r e.2.2 e'.2.2⟩
structure Small (h : Nd) (ps : To) : Prop where
  good : allT GoodH (.cons h ps .nil)
  right : GoodR h ∧ allT GoodR ps
  size : ps.size ≤ 199
theorem small_of {h : Nd} {ps : To} (hg : greatTm h ps = false) (ho : OkO h) (hop : allT OkO ps) : Small h ps := by
  have ga := greatTm_no hg
  have ba := bigH_no ga.1
  have hall := sc_allT_and ps hop (allT_mono (fun h hh => bigH_no hh) _ ga.2.1)
  exact ⟨⟨⟨by omega, by omega, ho.2.1, ho.2.2.1⟩, allT_mono (fun h hh => ⟨by have := hh.2.1; omega, by have := hh.2.2; omega, hh.1.2.1, hh.1.2.2.1⟩) _ hall, trivial⟩,
    ⟨⟨by omega, by omega, ho.2.2.2⟩, allT_mono (fun h hh => ⟨by have := hh.2.1; omega, by have := hh.2.2; omega, hh.1.2.2.2⟩) _ hall⟩, by omega⟩
theorem great8_any (h : Nd) (ps : To) (w W : World) (o1 : Option Addr) (l1 c1 : Nat) (o2 : Option Addr) (l2 c2 : Nat) (h1 : SlcIn (Low w) w o1 l1 h.tp) (h2 : TSlc (Low w) w o2 l2 ps) (ho : OkO h) (hop : allT OkO ps) (hq : Quiet0 w W) :
    Calls Tryd.prog 15 #[tmv h o1 l1 c1 o2 l2 c2] W fun e w' => e = .returned (.bool (greatTm h ps)) ∧ Quiet0 W w' :=
  greatTm_any h ps W (Low w) o1 l1 c1 o2 l2 c2 (h1.stay hq) (h2.stay hq) (by have := ho.1; unfold maxLen at this; omega) (allT_mono (fun h hh => by have := hh.1; unfold maxLen at this; omega) _ hop)
end Sc
end Go.Proofs.YtnfodiedalhlhaaDoor
end
section
namespace Go.Proofs.YtnfodiedalhlhaaDoor
open Go.RowKit Go.Shelf
namespace Sc
theorem wk_size {σ : Type} (stp : σ → Nd → List ByteArray → σ) (out : Nd → List ByteArray → Nd) : ∀ (f : To) (bk : Int) (nm : ByteArray) (i : Nat) (s : σ) (e : List ByteArray), (wk stp out bk nm i s e f).2.size = f.size
  | .nil, _, _, _, _, _ => rfl
  | .cons h ps r, bk, nm, i, s, e => by
    rw [wk_cons]
    simp only [To.size]
    rw [wk_size stp out r]
    have : (wk1 stp out s (envOf bk nm i e) h ps).2.2.size = ps.size := by
      unfold wk1; split
      · rfl
      · exact wk_size stp out ps _ _ _ _ _
    rw [this]
theorem wk1_size {σ : Type} (stp : σ → Nd → List ByteArray → σ) (out : Nd → List ByteArray → Nd) (s : σ) (e : List ByteArray) (h : Nd) (ps : To) : (wk1 stp out s e h ps).2.2.size = ps.size := by
  unfold wk1; split
  · rfl
  · exact wk_size stp out ps _ _ _ _ _
def barH (h : Nd) (ps : To) : Nd := (wk1 (fun (s : Unit) _ _ => s) brO () [] h ps).2.1
def barP (h : Nd) (ps : To) : To := (wk1 (fun (s : Unit) _ _ => s) brO () [] h ps).2.2
theorem barH_tp (h : Nd) (ps : To) : (barH h ps).tp = h.tp := wk1_tp _ _ brO_tp _ _ _ _
theorem eg_bare : ∀ args w, (callFunc 86 args).run Tryd.prog w = .ok (.enter 86 args) w := enters_of Tryd.func86 (by kernel_rfl) rfl
def TcQ (h : Nd) (ps : To) (l1 l2 n0 : Nat) (W : World) (x : Ending) (w1 : World) : Prop := ∃ q1 e1 q2 e2, x = .returned (tmv h q1 l1 e1 q2 l2 e2) ∧ (SlcIn (fun b => n0 ≤ b) w1 q1 l1 h.tp ∧ TSlc (fun b => n0 ≤ b) w1 q2 l2 ps) ∧ Quiet0 W w1
def BwQ (n0 : Nat) (g : Nd) (gs : To) (q1 : Option Addr) (l1 e1 l2 : Nat) (W : World) (x : Ending) (w2 : World) : Prop := ∃ (r2 : Option Addr) (f2 : Nat) (R2 E : Nat → Prop), x = .returned (tmv g q1 l1 e1 r2 l2 f2) ∧ SlcIn R2 w2 q1 l1 g.tp ∧ TO R2 w2 E r2 l2 gs ∧ (∀ k, E k → n0 ≤ k ∧ k < w2.heap.size ∧ ¬ R2 k) ∧ (∀ k, R2 k → n0 ≤ k ∧ k < w2.heap.size) ∧ Quiet0 W w2
def BsQ (n0 : Nat) (g : Nd) (gs : To) (q1 : Option Addr) (l1 e1 : Nat) (r2 : Option Addr) (l2 f2 : Nat) (W : World) (x : Ending) (w3 : World) : Prop := x = .returned (tmv g q1 l1 e1 r2 l2 f2) ∧ (SlcIn (fun b => n0 ≤ b) w3 q1 l1 g.tp ∧ TSlc (fun b => n0 ≤ b) w3 r2 l2 gs) ∧ Fr (fun k => n0 ≤ k) W w3
theorem bare_walk (h : Nd) (ps : To) (hz : ps.size ≤ 100000) (hv : varOk h ps) (hav : allV ps) (n0 : Nat) (w1 W : World) (q1 : Option Addr) (l1 e1 : Nat) (q2 : Option Addr) (l2 e2 : Nat) (g1 : SlcIn (fun b => n0 ≤ b) w1 q1 l1 h.tp) (g2 : TSlc (fun b => n0 ≤ b) w1 q2 l2 ps) (hn : n0 ≤ w1.heap.size) (hq : Quiet0 w1 W) :
    Calls Tryd.prog 71 #[tmv h q1 l1 e1 q2 l2 e2, .slice none 0 0, .func (.func 86) #[] #[]] W (BwQ n0 (barH h ps) (barP h ps) q1 l1 e1 l2 W) := by
  have hc := walkT_any (F := 86) (lb := #[]) (R := fun k => n0 ≤ k ∧ k < W.heap.size) (L0 := W.heap.size) eg_bare (bareDo_any _ _) (fun k hk => hk.2) brO_tp h ps 0 () (fun _ => False) W (fun _ => False) [] q1 l1 e1 q2 l2 e2 none 0 0 ⟨Nat.le_refl _, fun _ h => h⟩ (NmIn.nil _ _ _) (Nat.le_refl _) (fun _ h => h.elim) (by omega) ((g1.stay hq).mono (fun k hk h => ⟨h, hk⟩)) ((g2.stay hq).mono (fun k hk h => ⟨h, hk⟩)) hv hav
  refine hc.mono ?_
  rintro x w2 ⟨r2, f2, D2, E2, rfl, hj, hto, hE, hf, _⟩
  have hq2 : Quiet0 W w2 := hf
  have hqs := hq.size
  refine ⟨r2, f2, _, E2, rfl, ?_, hto, fun k hk => ?_, fun k hk => ⟨hk.1, Nat.lt_of_lt_of_le hk.2 hq2.size⟩, hq2⟩
  · show SlcIn _ _ _ _ (barH h ps).tp
    rw [barH_tp]
    exact ((g1.stay hq).mono (T := fun k => n0 ≤ k ∧ k < W.heap.size) (fun k hk h => ⟨h, hk⟩)).stay hq2
  · have := hE k hk
    exact ⟨by omega, this.2.1, fun h => by omega⟩
theorem bare_strip (g : Nd) (gs : To) (hz : gs.size ≤ 100000) (n0 fb : Nat) (w2 W : World) (q1 : Option Addr) (l1 e1 : Nat) (r2 : Option Addr) (l2 f2 : Nat) (R2 E : Nat → Prop) (hs : SlcIn R2 w2 q1 l1 g.tp) (ht : TO R2 w2 E r2 l2 gs) (hE : ∀ k, E k → n0 ≤ k ∧ k < w2.heap.size ∧ ¬ R2 k) (hR : ∀ k, R2 k → n0 ≤ k ∧ k < w2.heap.size) (hb : FBox w2 fb) (hfb : fb < n0) (hq : Quiet0 w2 W) :
    Calls Tryd.prog 85 #[tmv g q1 l1 e1 r2 l2 f2, .pointer (some ⟨fb, 0, none⟩)] W (BsQ n0 (stripH g) (stripF gs) q1 l1 e1 r2 l2 f2 W) := by
  have hqs := hq.size
  refine (strip_any g gs W R2 E fb q1 l1 e1 r2 l2 f2 (hs.stay hq) (ht.stay hq) (blk_after hq hb) (fun h => by have := hE _ h; omega) (fun k hk h => (hE k h).2.2 hk) (fun k hk => by have := hE k hk; omega) (fun k hk => by have := hR k hk; omega) hz).mono ?_
  rintro x w3 ⟨rfl, hto, hf⟩
  refine ⟨rfl, ⟨?_, hto.tslc (fun k _ hk => (hR k hk).1) (fun k hk => (hE k hk).1)⟩, hf.mono (fun k _ hk => (hE k hk).1)⟩
  exact (hs.stay hq).fr hf (fun k _ hk => ⟨(hR k hk).1, fun h => (hE k h).2.2 hk⟩)
theorem bare_fin {w W0 w3 : World} {B l1 e1 l2 f2 : Nat} {g : Nd} {gs : To} {q1 r2 : Option Addr} (h0 : w.heap.size = B) (hz : W0.heap.size = B + 3) (hq : Quiet0 w W0) (hf : Fr (fun k => B + 3 ≤ k) W0 w3) (h1 : SlcIn (fun b => B + 3 ≤ b) w3 q1 l1 g.tp) (h2 : TSlc (fun b => B + 3 ≤ b) w3 r2 l2 gs) :
    TmQ w g gs (.returned (.agg #[.int .i64 g.k, .string g.nm, .int .i64 g.n, .int .i64 g.tk, .int .i64 g.tn, .slice q1 l1 e1, .slice r2 l2 f2, .int .i64 g.fr, .int .i64 g.en])) (put9 w3 (B + 1) (.int .i64 g.k) (.string g.nm) (.int .i64 g.n) (.int .i64 g.tk) (.int .i64 g.tn) (.slice q1 l1 e1) (.slice r2 l2 f2) (.int .i64 g.fr) (.int .i64 g.en)) := by
  have hff := put9_fr w3 (B + 1) (.int .i64 g.k) (.string g.nm) (.int .i64 g.n) (.int .i64 g.tk) (.int .i64 g.tn) (.slice q1 l1 e1) (.slice r2 l2 f2) (.int .i64 g.fr) (.int .i64 g.en)
  have key : ∀ k, B + 3 ≤ k → w.heap.size ≤ k ∧ ¬ k = B + 1 := fun k hk => by omega
  exact ⟨q1, l1, e1, r2, l2, f2, rfl, h1.fr hff (fun k _ hk => key k hk), h2.fr hff (fun k _ hk => key k hk), (hq.trans' hf (fun k hk h => by omega)).trans' hff (fun k hk h => by omega)⟩
theorem TmQ.drew {w : World} {g : Nd} {gs : To} {x : Ending} {w' : World} (h : TmQ w g gs x w') : TmQ w g gs x w'.drew := by
  obtain ⟨o1, l1, c1, o2, l2, c2, hx, h1, h2, h3⟩ := h
  exact ⟨o1, l1, c1, o2, l2, c2, hx, h1.stay (Quiet0.drew _), h2.stay (Quiet0.drew _), h3.trans (Quiet0.drew _)⟩
set_option maxRecDepth 100000 in
set_option maxHeartbeats 4000000 in
theorem bare_any (h : Nd) (ps : To) (w : World) (R : Nat → Prop) (o1 : Option Addr) (l1 c1 : Nat) (o2 : Option Addr) (l2 c2 : Nat) (hs1 : SlcIn R w o1 l1 h.tp) (hs : TSlc R w o2 l2 ps) (hz : ps.size ≤ 100000) (hv : varOk h ps) (hav : allV ps) (ht : h.tp.size ≤ 1000000) (hat : allT (fun h => h.tp.size ≤ 1000000) ps) :
    Calls Tryd.prog 50 #[tmv h o1 l1 c1 o2 l2 c2] w (TmQ w (stripH (barH h ps)) (stripF (barP h ps))) := by
  have hgz : (barP h ps).size ≤ 100000 := by unfold barP; rw [wk1_size]; exact hz
  have HW := Lib.hid (bare_walk h ps hz hv hav)
  have HS := Lib.hid (bare_strip (barH h ps) (barP h ps) hgz)
  clear hgz
  generalize barH h ps = g0 at *
  generalize barP h ps = gs0 at *
  generalize stripH g0 = g at *
  generalize stripF gs0 = gs at *
  obtain ⟨W0, hW0⟩ : ∃ W0, W0 = ((w.alloc (.cells (cells9 h o1 l1 c1 o2 l2 c2) 30)).alloc (.cells zero9 30)).alloc (.cells #[.func (.func 85) #[] #[.pointer (some ⟨w.heap.size + 2, 0, none⟩)]] 64) := ⟨_, rfl⟩
  have HQ0 : Hid (Quiet0 w W0) := by rw [hW0]; exact ((Quiet0.alloc _ _).trans (Quiet0.alloc _ _)).trans (Quiet0.alloc _ _)
  have HB0 : Hid (W0.heap[w.heap.size]? = some (.cells (cells9 h o1 l1 c1 o2 l2 c2) 30 (0, 0))) := by
    show _ = _; rw [hW0, Below.heap_alloc _ _ _ (by simp; omega), Below.heap_alloc _ _ _ (by simp)]; exact heap_alloc_new w _
  have HB1 : Hid (W0.heap[w.heap.size + 1]? = some (.cells zero9 30 (0, 0))) := by
    show _ = _; rw [hW0, Below.heap_alloc _ _ _ (by simp)]
    have := heap_alloc_new (w.alloc (.cells (cells9 h o1 l1 c1 o2 l2 c2) 30)) (.cells zero9 30)
    simpa using this
  have HB2 : Hid (FBox W0 (w.heap.size + 2)) := by
    show W0.heap[w.heap.size + 2]? = _; rw [hW0]
    have := heap_alloc_new ((w.alloc (.cells (cells9 h o1 l1 c1 o2 l2 c2) 30)).alloc (.cells zero9 30)) (.cells #[.func (.func 85) #[] #[.pointer (some ⟨w.heap.size + 2, 0, none⟩)]] 64)
    simpa using this
  have HZ : Hid (W0.heap.size = w.heap.size + 3) := by show _ = _; rw [hW0]; simp
  have HC : Hid (∀ W, Quiet0 W0 W → Calls Tryd.prog 51 #[tmv h o1 l1 c1 o2 l2 c2] W (TcQ h ps l1 l2 (w.heap.size + 3) W)) := fun W hq => by
    have hzz := HZ.out
    have hqs := hq.size
    refine (copyT_any h ps W R o1 l1 c1 o2 l2 c2 (hs1.stay (HQ0.out.trans hq)) (hs.stay (HQ0.out.trans hq)) ht hat (by omega)).mono ?_
    rintro x w1 ⟨q1, e1, q2, e2, rfl, hk1, hk2, hq1⟩
    have hn : w.heap.size + 3 ≤ W.heap.size := by omega
    exact ⟨q1, e1, q2, e2, rfl, ⟨hk1.mono (fun k _ hk => Nat.le_trans hn hk), hk2.mono (fun k _ hk => Nat.le_trans hn hk)⟩, hq1⟩
  clear hs1 hs hz hv hav ht hat
  unfold tmv at HC HW HS
  unfold tmv
  go_enter Tryd.func50, Tryd.ntmps50
  go_upto_region 3 with fail
  change Code.wp _ _ _ _ (((w.alloc (.cells (cells9 h o1 l1 c1 o2 l2 c2) 30)).alloc (.cells zero9 30)).alloc (.cells #[.func (.func 85) #[] #[.pointer (some ⟨w.heap.size + 2, 0, none⟩)]] 64))
  rw [← hW0]
  clear hW0
  have e2 : w.heap.size + 1 + 1 = w.heap.size + 2 := rfl
  rw [e2]
  clear e2
  generalize hB : w.heap.size = B at *
  have HBE := Lib.hid hB
  clear hB
  have HF0 : Hid (∀ W, Fr (fun k => B + 3 ≤ k) W0 W → Cells9 W B 0 h o1 l1 c1 o2 l2 c2 ∧ FBox W (B + 2) ∧ W.heap[B + 1]? = some (.cells zero9 30 (0, 0))) := fun W hq => ⟨(cells9_block HB0.out).fr hq (by omega), blk_fr hq (by omega) HB2.out, blk_fr hq (by omega) HB1.out⟩
  obtain ⟨⟨a0, a1, a2, a3, a4, a5, a6, a7, a8⟩, hfb, _⟩ := HF0.out W0 (Fr.refl _ _)
  have f0 := cell_of_one hfb
  clear hfb
  have hqc := Quiet0.refl W0
  go_region_law (first
    | (go_simp; go_at_call 51; (with_reducible refine Calls.mono (HC.out _ ?hq) ?_); (case hq => (repeat (first | with_reducible exact hqc | with_reducible exact Quiet0.refl _ | with_reducible refine Quiet0.trans ?_ (Quiet0.alloc _ _) | with_reducible refine Quiet0.trans ?_ (Quiet0.drew _) | fail))); rintro x w1 ⟨q1, e1, q2, e2, rfl, hk, hq1⟩; have HK := Lib.hid hk; have hqw : Quiet0 W0 w1 := Quiet0.trans (by (repeat (first | with_reducible exact hqc | with_reducible exact Quiet0.refl _ | with_reducible refine Quiet0.trans ?_ (Quiet0.alloc _ _) | with_reducible refine Quiet0.trans ?_ (Quiet0.drew _) | fail))) hq1; have HQ1 := Lib.hid hqw; have HN1 : Hid (B + 3 ≤ w1.heap.size) := Nat.le_trans (Nat.le_of_eq HZ.out.symm) (Fr.size hqw); have f1 := cell_of_one (HF0.out w1 hqw.fr).2.1; unfold tmv; clear hqw hk hq1)
    | (go_simp; go_at_call 71; (with_reducible refine Calls.mono (HW.out (B + 3) w1 _ q1 l1 e1 q2 l2 e2 HK.out.1 HK.out.2 HN1.out ?hq0) ?_); (case hq0 => (repeat (first | with_reducible exact Quiet0.refl _ | with_reducible refine Quiet0.trans ?_ (Quiet0.alloc _ _) | with_reducible refine Quiet0.trans ?_ (Quiet0.drew _) | fail))); rintro x w2 ⟨r2, f2, R2, E, rfl, hk1, hk2, hk3, hk4, hq2⟩; have hqw : Quiet0 W0 w2 := Quiet0.trans (Quiet0.trans HQ1.out (by (repeat (first | with_reducible exact Quiet0.refl _ | with_reducible refine Quiet0.trans ?_ (Quiet0.alloc _ _) | with_reducible refine Quiet0.trans ?_ (Quiet0.drew _) | fail)))) hq2; have HQ2 := Lib.hid hqw; have HG := Lib.hid (fun W hq => HS.out (B + 3) (B + 2) w2 W q1 l1 e1 r2 l2 f2 R2 E hk1 hk2 hk3 hk4 (HF0.out w2 hqw.fr).2.1 (by omega) hq); have v0 := cell_of_one (HF0.out w2 hqw.fr).2.1; unfold tmv; clear hqw hk1 hk2 hk3 hk4 hq2)
    | (go_simp; go_at_call 85; (with_reducible refine Calls.mono (HG.out _ ?hq0) ?_); (case hq0 => (repeat (first | with_reducible exact Quiet0.refl _ | with_reducible refine Quiet0.trans ?_ (Quiet0.alloc _ _) | with_reducible refine Quiet0.trans ?_ (Quiet0.drew _) | fail))); rintro x w3 ⟨rfl, hk, hf3⟩; have hfw : Fr (fun k => B + 3 ≤ k) W0 w3 := Fr.trans (Quiet0.fr (Quiet0.trans HQ2.out (by (repeat (first | with_reducible exact Quiet0.refl _ | with_reducible refine Quiet0.trans ?_ (Quiet0.alloc _ _) | with_reducible refine Quiet0.trans ?_ (Quiet0.drew _) | fail))))) hf3; have HK3 := Lib.hid hk; have HF3 := Lib.hid hfw; have HB3 := Lib.hid (HF0.out w3 hfw).2.2; unfold tmv; obtain ⟨⟨z0, z1, z2, z3, z4, z5, z6, z7, z8⟩, t0, t1, t2, t3, t4, t5, t6, t7, t8⟩ := block9 HB3.out; clear hk hf3 hfw)
    | fail)
  all_goals
    go_wp2_with fail
    have hbf := put9_block (a0 := .int .i64 g.k) (a1 := .string g.nm) (a2 := .int .i64 g.n) (a3 := .int .i64 g.tk) (a4 := .int .i64 g.tn) (a5 := .slice q1 l1 e1) (a6 := .slice r2 l2 f2) (a7 := .int .i64 g.fr) (a8 := .int .i64 g.en) HB3.out
    have HFIN := Lib.hid (bare_fin (g := g) (gs := gs) (l1 := l1) (l2 := l2) (e1 := e1) (f2 := f2) (q1 := q1) (r2 := r2) HBE.out HZ.out HQ0.out HF3.out HK3.out.1 HK3.out.2)
    clear z0 z1 z2 z3 z4 z5 z6 z7 z8 t0 t1 t2 t3 t4 t5 t6 t7 t8
    first
      | with_reducible change bodyPost _ _ _ _ _ (put9 w3 (B + 1) (.int .i64 g.k) (.string g.nm) (.int .i64 g.n) (.int .i64 g.tk) (.int .i64 g.tn) (.slice q1 l1 e1) (.slice r2 l2 f2) (.int .i64 g.fr) (.int .i64 g.en))
      | with_reducible change bodyPost _ _ _ _ _ (put9 w3 (B + 1) (.int .i64 g.k) (.string g.nm) (.int .i64 g.n) (.int .i64 g.tk) (.int .i64 g.tn) (.slice q1 l1 e1) (.slice r2 l2 f2) (.int .i64 g.fr) (.int .i64 g.en)).drew
      | change bodyPost _ _ _ _ _ (put9 w3 (B + 1) (.int .i64 g.k) (.string g.nm) (.int .i64 g.n) (.int .i64 g.tk) (.int .i64 g.tn) (.slice q1 l1 e1) (.slice r2 l2 f2) (.int .i64 g.fr) (.int .i64 g.en))
    generalize put9 w3 (B + 1) (.int .i64 g.k) (.string g.nm) (.int .i64 g.n) (.int .i64 g.tk) (.int .i64 g.tn) (.slice q1 l1 e1) (.slice r2 l2 f2) (.int .i64 g.fr) (.int .i64 g.en) = wf at *
    obtain ⟨⟨x0, x1, x2, x3, x4, x5, x6, x7, x8⟩, _⟩ := block9 hbf
    clear hbf
    first
      | (refine bodyPost_ret (by simp [results, Tryd.results50, go_sem, x0, x1, x2, x3, x4, x5, x6, x7, x8]; rfl) rfl ?_; exact HFIN.out)
      | (refine bodyPost_ret (by simp [results, Tryd.results50, go_sem, x0, x1, x2, x3, x4, x5, x6, x7, x8]; rfl) rfl ?_; exact HFIN.out.drew)
end Sc
end Go.Proofs.YtnfodiedalhlhaaDoor
end
section
namespace Go.Proofs.YtnfodiedalhlhaaDoor
open Go.RowKit Go.Shelf
def PSameT (all : Bool) (g : Nat) (a : Nd) (p : To) : Prop := ∀ (b : Nd) (q : To) (w : World) (o1 : Option Addr) (l1 c1 : Nat) (o2 : Option Addr) (l2 c2 : Nat) (p1 : Option Addr) (m1 d1 : Nat) (p2 : Option Addr) (m2 d2 : Nat) (R : Nat → Prop),
  SlcIn R w o1 l1 a.tp → TSlc R w o2 l2 p → SlcIn R w p1 m1 b.tp → TSlc R w p2 m2 q →
  Calls Tryd.prog g #[tmv a o1 l1 c1 o2 l2 c2, tmv b p1 m1 d1 p2 m2 d2] w fun e w' => e = .returned (.bool (alikeT all a p b q)) ∧ Quiet0 w w'
set_option maxRecDepth 100000 in
set_option maxHeartbeats 2000000 in
theorem equalFuncT_any (all : Bool) (g : Nat) (eg : ∀ args w, (callFunc g args).run Tryd.prog w = .ok (.enter g args) w) (ps ps' : To) (ih : ∀ i h qs, ps.get i = some (h, qs) → PSameT all g h qs) (w : World) (R : Nat → Prop) (o : Option Addr) (len cap : Nat) (o' : Option Addr) (len' cap' : Nat) (hs : TSlc R w o len ps) (hs' : TSlc R w o' len' ps') :
    Calls Tryd.prog 84 #[.slice o len cap, .slice o' len' cap', .func (.func g) #[] #[]] w fun e w' => e = .returned (.bool (ps.alike (headB all) ps')) ∧ Quiet0 w w' := by
  have HS := Lib.hid hs
  have HS' := Lib.hid hs'
  have IH := Lib.hid ih
  have HL := Lib.hid hs.1
  have HL' := Lib.hid hs'.1
  have hmx := hs.2.1
  unfold maxLen at hmx
  clear hs hs' ih
  obtain ⟨res, hres⟩ : ∃ res, res = ps.alike (headB all) ps' := ⟨_, rfl⟩
  have HRES := Lib.hid hres
  rw [← hres]
  clear hres
  by_cases hlen : len = len'
  · subst hlen
    have b3 : ((len : Int) != (len : Int)) = false := by simp
    go_enter Tryd.func84, Tryd.ntmps84
    go_wp2_with fail
    go_loopw [17] (fun t wr => ∃ (i : Nat), t = .int .i64 i ∧ i ≤ len ∧ res = (ps.drop i).alike (headB all) (ps'.drop i) ∧ Quiet0 w wr) (fun t _ => len - (intOf t).toNat)
    case atStart => exact ⟨0, rfl, Nat.zero_le _, by rw [To.drop_zero, To.drop_zero]; exact HRES.out, Quiet0.refl _⟩
    case round =>
      obtain ⟨i, rfl, hi, hr, hq⟩ := hrel
      have HR := Lib.hid hr
      have HQ := Lib.hid hq
      clear hr hq
      by_cases hlt : i < len
      · have hlt' : (i : Int) < len := by omega
        obtain ⟨b, off, h1, qs1, o1, l1, c1, o2, l2, c2, rfl, hd1, hg1, hR1, ⟨e0, e1, e2, e3, e4, e5, e6, e7, e8⟩, hs1, ht1⟩ := (HS.out.stay HQ.out).nth hlt
        obtain ⟨b2, off2, h2, qs2, p1, m1, d1, p2, m2, d2, rfl, hd2, hg2, hR2, ⟨f0, f1, f2, f3, f4, f5, f6, f7, f8⟩, hs2, ht2⟩ := (HS'.out.stay HQ.out).nth hlt
        have hbl := World.block_lt_of_cell? _ _ e0
        have hbl2 := World.block_lt_of_cell? _ _ f0
        have HC := Lib.hid (fun (W : World) (hq : Quiet0 wr W) => IH.out i h1 qs1 hg1 h2 qs2 W o1 l1 c1 o2 l2 c2 p1 m1 d1 p2 m2 d2 R (hs1.stay hq) (ht1.stay hq) (hs2.stay hq) (ht2.stay hq))
        have HN : Hid (res = (alikeT all h1 qs1 h2 qs2 && (ps.drop (i + 1)).alike (headB all) (ps'.drop (i + 1)))) := by
          show _ = _
          rw [HR.out, hd1, hd2, alike_cons]
        unfold tmv at HC
        clear hd1 hg1 hs1 ht1 hd2 hg2 hs2 ht2
        cases hb : alikeT all h1 qs1 h2 qs2
        all_goals
          have HBV := Lib.hid hb
          rw [hb] at HC
          clear hb
          go_wp2_with fail
          refine (HC.out _ ((Quiet0.alloc _ _).trans (Quiet0.alloc _ _))).mono ?_; rintro e w1 ⟨rfl, hq1⟩
          have HQ1 := Lib.hid (HQ.out.trans (((Quiet0.alloc _ _).trans (Quiet0.alloc _ _)).trans hq1))
          clear hq1
          go_wp2_with fail
        · go_ret
          exact ⟨by rw [HN.out, HBV.out]; rfl, HQ1.out⟩
        · go_roundw
          case rel => exact ⟨i + 1, by go_num, by omega, by rw [HN.out, HBV.out]; rfl, HQ1.out⟩
          case measure => simp [intOf]; omega
      · have hlt' : ¬ (i : Int) < len := by omega
        have HY : Hid (res = true) := by
          show _ = _
          rw [HR.out, To.drop_end ps i (by have := HL.out; omega), To.drop_end ps' i (by have := HL'.out; omega)]; rfl
        go_wp2_with fail
        go_ret
        exact ⟨by rw [HY.out]; rfl, HQ.out⟩
  · have HF : Hid (res = false) := by
      show _ = _
      rw [HRES.out]
      cases h : ps.alike (headB all) ps'
      · rfl
      · exact absurd (To.alike_length _ _ _ h) (by have := HL.out; have := HL'.out; omega)
    have b3 : ((len : Int) != (len' : Int)) = true := by simp; omega
    go_enter Tryd.func84, Tryd.ntmps84
    go_wp2_with fail
    go_ret
    exact ⟨by rw [HF.out]; rfl, Quiet0.refl _⟩
theorem eg_equalT : ∀ args w, (callFunc 49 args).run Tryd.prog w = .ok (.enter 49 args) w := enters_of Tryd.func49 (by kernel_rfl) rfl
end Go.Proofs.YtnfodiedalhlhaaDoor
end
section
namespace Go.Proofs.YtnfodiedalhlhaaDoor
open Go.RowKit Go.Shelf
set_option maxRecDepth 100000 in
set_option maxHeartbeats 4000000 in
theorem equalTm_any (a : Nd) (p : To) : PSameT true 49 a p := by
  refine To.ind' (T := PSameT true 49) ?_ a p
  intro a p ih b q w o1 l1 c1 o2 l2 c2 p1 m1 d1 p2 m2 d2 R h1 h2 h3 h4
  have HC := Lib.hid (fun (W : World) (hq : Quiet0 w W) => same_any a.tk a.tn a.tp b.tk b.tn b.tp W o1 l1 c1 p1 m1 d1 (h1.slc.stay hq) (h3.slc.stay hq))
  have HE := Lib.hid (fun (W : World) (hq : Quiet0 w W) => equalFuncT_any true 49 eg_equalT p q ih W R o2 l2 c2 p2 m2 d2 (h2.stay hq) (h4.stay hq))
  clear h1 h2 h3 h4 ih
  unfold alikeT
  generalize p.alike (headB true) q = r at *
  unfold headB
  unfold tyv at HC
  generalize sameT a.tk a.tn a.tp b.tk b.tn b.tp = sb at *
  obtain ⟨ak, an, aN, atk, atn, atp, af, ae⟩ := a
  obtain ⟨bk, bn, bN, btk, btn, btp, bf, be⟩ := b
  dsimp only at *
  unfold tmv
  dsimp only
  cases hk : (ak == bk)
  · go_enter Tryd.func49, Tryd.ntmps49
    go_wp2_with fail
    go_ret
    exact ⟨rfl, ((Quiet0.alloc _ _).trans (Quiet0.alloc _ _))⟩
  · cases hn : (an.toList == bn.toList)
    · go_enter Tryd.func49, Tryd.ntmps49
      go_wp2_with fail
      go_ret
      exact ⟨rfl, ((Quiet0.alloc _ _).trans (Quiet0.alloc _ _))⟩
    · cases hN : (aN == bN)
      · go_enter Tryd.func49, Tryd.ntmps49
        go_wp2_with fail
        go_ret
        exact ⟨rfl, ((Quiet0.alloc _ _).trans (Quiet0.alloc _ _))⟩
      · cases hf : (af == bf)
        · go_enter Tryd.func49, Tryd.ntmps49
          go_wp2_with fail
          go_ret
          exact ⟨rfl, ((Quiet0.alloc _ _).trans (Quiet0.alloc _ _))⟩
        · cases he : (ae == be)
          · go_enter Tryd.func49, Tryd.ntmps49
            go_wp2_with fail
            go_ret
            exact ⟨rfl, ((Quiet0.alloc _ _).trans (Quiet0.alloc _ _))⟩
          · cases sb
            · go_enter Tryd.func49, Tryd.ntmps49
              go_wp2_with fail
              refine (HC.out _ ((Quiet0.alloc _ _).trans (Quiet0.alloc _ _))).mono ?_; rintro e w1 ⟨rfl, hq1⟩
              go_wp2_with fail
              go_ret
              exact ⟨by simp, ((Quiet0.alloc _ _).trans (Quiet0.alloc _ _)).trans hq1⟩
            · go_enter Tryd.func49, Tryd.ntmps49
              go_wp2_with fail
              refine (HC.out _ ((Quiet0.alloc _ _).trans (Quiet0.alloc _ _))).mono ?_; rintro e w1 ⟨rfl, hq1⟩
              obtain ⟨⟨a0, a1, a2, a3, a4, a5, a6, a7, a8⟩, b0, b1, b2, b3, b4, b5, b6, b7, b8⟩ := box92 w ⟨ak, an, aN, atk, atn, atp, af, ae⟩ o1 l1 c1 o2 l2 c2 ⟨bk, bn, bN, btk, btn, btp, bf, be⟩ p1 m1 d1 p2 m2 d2 _ _ hq1
              have HQ1 := Lib.hid (((Quiet0.alloc _ _).trans (Quiet0.alloc _ _)).trans hq1)
              clear hq1
              dsimp only at *
              go_wp2_with fail
              refine (HE.out _ HQ1.out).mono ?_; rintro e w2 ⟨rfl, hq2⟩
              go_wp2_with fail
              go_ret
              exact ⟨by simp, HQ1.out.trans hq2⟩
end Go.Proofs.YtnfodiedalhlhaaDoor
end
