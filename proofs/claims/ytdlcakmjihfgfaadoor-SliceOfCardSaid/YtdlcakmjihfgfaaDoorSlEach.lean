/-
  slice.each, with a closure that writes on a builder. Conditions: the spans lie in memory as told; there are few; the text is short.
-/
import Derived.Test.YtdlcakmjihfgfaaDoorSlInside
import Derived.Test.YtdlcakmjihfgfaaDoorSpClipLaw
import Derived.Test.YtdlcakmjihfgfaaDoorSlDo
import Derived.Test.YtdlcakmjihfgfaaDoorSlBackPlain
import Derived.Test.YtdlcakmjihfgfaaDoorSpMerge
import Derived.Test.YtdlcakmjihfgfaaDoorSlBuild
namespace Go.Proofs.YtdlcakmjihfgfaaDoor
open Go.RowKit Go.Shelf SpanPlain

/-- spans of the call's own stay while a builder is written on -/
theorem SpRow.kept {w w' : World} {B n c b : Nat} {o : Option Addr} {l : List Sp} (h : SpRow w B (.slice o n c) l) (hb : b < B) (hk : Kept8 b w w') : SpAt (fun _ => True) w' o l := by
  by_cases h0 : 0 < l.length
  · obtain ⟨g, rfl⟩ := h.some h0
    obtain ⟨⟨cur, hc, h1⟩, h2, _⟩ := h.blk
    have hw : w'.heap[g]? = Option.some (.cells cur 41 (0, 0)) := hk g _ hc (by simp; omega) (fun c fz e => by injection e with e1 e2; exact absurd e2 (by decide))
    exact SpB.slc (c := c) ⟨cur, hw, h1⟩ trivial
  · have : l = [] := List.eq_nil_of_length_eq_zero (by omega)
    subst this; exact SpAt.nil _ _ _
theorem eachF_drop {text : ByteArray} {f : ByteArray → ByteArray → ByteArray → ByteArray} {c : List (Nat × Nat)} {i : Nat} {p : Nat × Nat} (h : c[i]? = some p) (a : Nat) (acc : ByteArray) :
    eachF text f (c.drop i) a acc = eachF text f (c.drop (i + 1)) p.2 (f acc (text.extract a p.1) (text.extract p.1 p.2)) := by
  have hi : i < c.length := (List.getElem?_eq_some_iff.1 h).1
  have he : c[i] = p := (List.getElem?_eq_some_iff.1 h).2
  rw [List.drop_eq_getElem_cons hi, he]; rfl
theorem inA_drop {n : Nat} {c : List (Nat × Nat)} {i a : Nat} {p : Nat × Nat} (h : c[i]? = some p) (hA : InA n a (c.drop i)) : a ≤ p.1 ∧ p.1 < p.2 ∧ p.2 ≤ n ∧ InA n p.2 (c.drop (i + 1)) := by
  have hi : i < c.length := (List.getElem?_eq_some_iff.1 h).1
  have he : c[i] = p := (List.getElem?_eq_some_iff.1 h).2
  rw [List.drop_eq_getElem_cons hi, he] at hA; exact hA
set_option maxRecDepth 100000 in
set_option maxHeartbeats 4000000 in
theorem each_any (g b B : Nat) (f : ByteArray → ByteArray → ByteArray → ByteArray) (eg : ∀ args w, (callFunc g args).run Tryd.prog w = .ok (.enter g args) w) (hdo : DoB g b B f) (hf : ∀ acc x y : ByteArray, (f acc x y).size ≤ acc.size + x.size + y.size + 10)
    (text : ByteArray) (l : List Sp) (o : Option Addr) (cap : Nat) (w : World) (R : Nat → Prop) (hs : SpAt R w o l) (hz : l.length ≤ 100000) (hm : (rmerge l).length ≤ 1000000) (hn : text.size ≤ 1000000) (acc0 : ByteArray) (ha0 : acc0.size ≤ 1000000) (hb : SB B b acc0 w) (hbl : b < w.heap.size) (hB : B ≤ w.heap.size) :
    Calls Tryd.prog 20 #[.string text, .slice o l.length cap, .func (.func g) #[] #[.pointer (some ⟨b, 0, none⟩)]] w fun e w' => e = .returned (.tuple #[]) ∧ SB B b (eachF text f (clipN text.size (rmerge l)) 0 acc0) w' ∧ Below B w w' := by
  have hM := insideS_any text l o cap w R hs hz hm
  rw [clipZ_N] at hM
  have HM := Lib.hid hM
  have hcl := clipN_length text.size (rmerge l)
  have hina : InA text.size 0 (clipN text.size (rmerge l)) := (inN_clip text.size l).inA (Nat.le_refl _) (Nat.zero_le _)
  obtain ⟨c, hc⟩ : ∃ c, clipN text.size (rmerge l) = c := ⟨_, rfl⟩
  rw [hc] at HM hcl hina
  rw [hc]
  have hcl2 : c.length ≤ 1000000 := by omega
  obtain ⟨fin, hfin⟩ : ∃ fin, eachF text f c 0 acc0 = fin := ⟨_, rfl⟩
  have HFIN := Lib.hid hfin
  rw [hfin]
  have HL : Hid ((c.map toZ).length = c.length) := List.length_map _
  have HINA := Lib.hid hina
  have HDO := Lib.hid hdo
  have HSZ := Lib.hid hf
  have HSB := Lib.hid hb
  clear hs hM hc hcl hfin hdo hf hina hb
  go_enter Tryd.func20, Tryd.ntmps20
  go_wp2_with fail
  refine HM.out.mono ?_; rintro e w1 ⟨v1, rfl, hr1, hq1⟩
  obtain ⟨o1, c1, rfl, hmx1⟩ := hr1.form
  have HR1 := Lib.hid hr1
  have HQ1 := Lib.hid hq1
  have HSB1 := Lib.hid (HSB.out.stay hq1)
  have hz1 : w.heap.size ≤ w1.heap.size := hq1.size
  have HBW1 : Hid (Below B w w1) := Lib.hid (Fr.below hq1 hB (fun _ h => h.elim))
  rw [HL.out]
  clear hr1 hq1 HM hmx1 HSB
  go_wp2_with fail
  go_loopw [6, 13] (fun u t wr => ∃ (i a : Nat) (acc : ByteArray), t = .int .i64 i ∧ i ≤ c.length ∧ u = .int .i64 a ∧ InA text.size a (c.drop i) ∧ eachF text f (c.drop i) a acc = fin ∧ acc.size ≤ 1000000 + i * 2000010 ∧ SB B b acc wr ∧ Below B w1 wr ∧ Kept8 b w1 wr ∧ w1.heap.size ≤ wr.heap.size) (fun _ t _ => c.length - (intOf t).toNat)
  case atStart => exact ⟨0, 0, acc0, rfl, Nat.zero_le _, rfl, HINA.out, HFIN.out, by omega, HSB1.out, Below.refl _ _, Lib.OthersKept.refl _ _ _, Nat.le_refl _⟩
  case round =>
    obtain ⟨i, a, acc, rfl, hi, rfl, hia, hef, has, hsb, hbw, hkp, hzr⟩ := hrel
    have HIA := Lib.hid hia
    have HEF := Lib.hid hef
    have HSB := Lib.hid hsb
    have HBW := Lib.hid hbw
    have HKP := Lib.hid hkp
    have hasz : acc.size ≤ 100000000000000 := by omega
    by_cases hlt : i < c.length
    · have hlt' : (i : Int) < c.length := by omega
      obtain ⟨p, hp⟩ : ∃ p, c[i]? = some p := ⟨_, List.getElem?_eq_getElem hlt⟩
      obtain ⟨x, y⟩ := p
      obtain ⟨hp1, hp2, hp3, hp4⟩ := inA_drop hp hia
      have hax : a ≤ x := hp1
      have hxy : x < y := hp2
      have hyn : y ≤ text.size := hp3
      have hax' : (a : Int) ≤ x := by omega
      have hxy' : (x : Int) ≤ y := by omega
      have hyn' : (y : Int) ≤ text.size := by omega
      have hxn' : (x : Int) ≤ text.size := by omega
      have HNI := Lib.hid hp4
      have HNE : Hid (eachF text f (c.drop (i + 1)) y (f acc (text.extract a x) (text.extract x y)) = fin) := by
        show _ = _; rw [← HEF.out, eachF_drop hp]
      obtain ⟨g1, off, rfl, _, a0, a1⟩ := HR1.out.kept (by omega) hkp i _ (toZ_get hp)
      have hzx : (text.extract a x).size ≤ 1000000 := by simp; omega
      have hzy : (text.extract x y).size ≤ 1000000 := by simp; omega
      obtain ⟨W0, hW0⟩ : ∃ W0, W0 = wr.alloc (.cells #[.int .i64 x, .int .i64 y] 41) := ⟨_, rfl⟩
      have HB0 : Hid (W0.heap[wr.heap.size]? = some (.cells #[.int .i64 x, .int .i64 y] 41 (0, 0))) := by rw [hW0]; exact heap_alloc_new wr _
      have b0 : W0.cell? ⟨wr.heap.size, 0, none⟩ = some (.int .i64 x) := by rw [cell_of_row _ _ _ _ _ (0, 0) HB0.out]; rfl
      have b1 : W0.cell? ⟨wr.heap.size, 1, none⟩ = some (.int .i64 y) := by rw [cell_of_row _ _ _ _ _ (0, 0) HB0.out]; rfl
      have HQ0 : Hid (Quiet0 wr W0) := by rw [hW0]; exact Quiet0.alloc _ _
      have HK0 : Hid (Kept8 b w1 W0.drew) := by rw [hW0]; exact (hkp.alloc _).drew
      have HBW0 : Hid (Below B w1 W0.drew) := by rw [hW0]; exact (hbw.alloc (by have := hbw.size; omega) _).drew
      have HDC := Lib.hid (HDO.out acc (text.extract a x) (text.extract x y) W0.drew (HSB.out.stay (HQ0.out.trans (Quiet0.drew _))) (by have := HQ0.out.size; show B ≤ W0.heap.size; omega) hzx hzy hasz)
      have hfs : (f acc (text.extract a x) (text.extract x y)).size ≤ 1000000 + (i + 1) * 2000010 := by
        have := HSZ.out acc (text.extract a x) (text.extract x y); omega
      clear hp hp1 hp2 hp3 hp4 hia hef hsb hbw hkp
      go_upto_region 4 with fail
      rw [← hW0]
      clear hW0 a0 a1
      generalize hbk : wr.heap.size = k at *
      have hkb : b < k := by omega
      clear hbk
      refine wp_region_still_tail 12 (by kernel_rfl) (by kernel_rfl) ?_
      simp only [List.take_succ_cons, List.take_zero, List.drop_succ_cons, List.drop_zero]
      change wpStill _ _ (World.drew W0) _ _ _
      repeat still_step
      refine wpStill_nil ?_
      change wpList _ _ _ _ _ (World.drew W0)
      go_wp2_with fail
      refine HDC.out.mono ?_; rintro e w3 ⟨rfl, hsb3, hbw3, hkp3⟩
      have hb3 := hkp3 k _ (show (World.drew W0).heap[k]? = some (.cells #[.int .i64 x, .int .i64 y] 41 (0, 0)) from HB0.out) (by simp; omega) (fun c fz e => by injection e with e1 e2; exact absurd e2 (by decide))
      have d1 : w3.cell? ⟨k, 1, none⟩ = some (.int .i64 y) := by rw [cell_of_row _ _ _ _ _ (0, 0) hb3]; rfl
      have HSB3 := Lib.hid hsb3
      have HBW3 : Hid (Below B w1 w3) := Lib.hid (HBW0.out.trans hbw3)
      have HKP3 : Hid (Kept8 b w1 w3) := Lib.hid (HK0.out.trans hkp3)
      have hz3 : w1.heap.size ≤ w3.heap.size := by
        have h1 : (World.drew W0).heap.size ≤ w3.heap.size := hbw3.size
        have h2 : k < (World.drew W0).heap.size := lt_of_block HB0.out
        omega
      clear b0 b1 hb3 hsb3 hbw3 hkp3 HDC
      go_wp2_with fail
      go_roundw
      case rel => exact ⟨i + 1, y, _, by go_num, by omega, rfl, HNI.out, HNE.out, hfs, HSB3.out, HBW3.out, HKP3.out, hz3⟩
      case measure => simp [intOf]; omega
    · have hlt' : ¬ (i : Int) < c.length := by omega
      have han : (a : Int) ≤ text.size := by have := hia.le; omega
      have hzx : (text.extract a text.size).size ≤ 1000000 := by simp; omega
      have HDC := Lib.hid (HDO.out acc (text.extract a text.size) ⟨#[]⟩ wr hsb (by omega) hzx (by decide) hasz)
      have HNE : Hid (f acc (text.extract a text.size) ⟨#[]⟩ = fin) := by
        show _ = _; rw [← HEF.out, List.drop_of_length_le (by omega)]; rfl
      clear hia hef hsb hbw hkp
      go_wp2_with fail
      refine HDC.out.mono ?_; rintro e w3 ⟨rfl, hsb3, hbw3, hkp3⟩
      rw [HNE.out] at hsb3
      have HSB3 := Lib.hid hsb3
      have HBW3 := Lib.hid (HBW1.out.trans (HBW.out.trans hbw3))
      clear hsb3 hbw3 hkp3
      go_wp2_with fail
      go_end0
      exact ⟨rfl, HSB3.out, HBW3.out⟩
end Go.Proofs.YtdlcakmjihfgfaaDoor
