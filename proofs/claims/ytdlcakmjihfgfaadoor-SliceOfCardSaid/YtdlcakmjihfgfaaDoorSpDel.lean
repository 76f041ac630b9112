/-
  slices.DeleteFunc on spans, with span.none. Conditions: the spans lie in a block that may be written; there are few.
-/
import Derived.Test.YtdlcakmjihfgfaaDoorSpIdx
import Derived.Shelf.Abstract
namespace Go.Proofs.YtdlcakmjihfgfaaDoor
open Go.RowKit Go.Shelf SpanPlain

/-- a span has bytes -/
abbrev neS (t : Sp) : Bool := decide (t.1 < t.2)
abbrev noS (t : Sp) : Bool := decide (t.2 ≤ t.1)
theorem noS_not (t : Sp) : (!noS t) = neS t := by
  unfold noS neS
  by_cases h : t.2 ≤ t.1
  · simp [h]
  · simp [h]; omega
theorem run_clear2 {P : Program} (w : World) (t e ty : TypeId) (z : Value) (ht : P.underlying t = some (.slice e)) (hv : ∀ w, (zeroValue e).run P w = .ok z w) (b o n c : Nat) (hn : 0 < n) (zs : List Value) (hzs : (Builtin.zeroCells z.cells n).toList = zs) (h1 : ∀ v ∈ zs, v.oneCell' = true)
    (hc : ∀ j, j < zs.length → (w.cell? ⟨b, o + j, none⟩).isSome = true) (hf : ∀ j, j < zs.length → w.frozen? ⟨b, o + j, none⟩ = false) :
    (Builtin.clear_ #[t] ty #[.slice (some ⟨b, o, none⟩) n c]).run P w = .ok (.tuple #[]) (w.setCells b o zs) := by
  have hst := run_storeCells_cells (P := P) b o zs 0 w (by simpa using hc) (by simpa using hf) h1
  simp only [Nat.add_zero] at hst
  obtain ⟨m, rfl⟩ : ∃ m, n = m + 1 := ⟨n - 1, by omega⟩
  simp [Builtin.clear_, run_underlying ht, hv, hzs, hst]
theorem SpB.pasts {b c : Nat} {l : List Sp} : ∀ (vs : List Value) (o : Nat) (w : World), SpB w b c l → l.length * 2 ≤ o → SpB (w.setCells b o vs) b c l ∧ Fr (fun k => k = b) w (w.setCells b o vs)
  | [], o, w, h, _ => ⟨h, Fr.refl _ _⟩
  | v :: vs, o, w, h, ho => by
    have := SpB.pasts vs (o + 1) _ (h.past (v := v) ho) (by omega)
    exact ⟨this.1, (Fr.setCell (fun k => k = b) w ⟨b, o, none⟩ v rfl).trans this.2⟩
theorem idxS_first (p : Sp → Bool) : ∀ (l : List Sp) (i : Nat), (idxS p l i = -1 ∧ ∀ t ∈ l, p t = false) ∨ ∃ k t, idxS p l i = ((i + k : Nat) : Int) ∧ l[k]? = some t ∧ p t = true ∧ ∀ u ∈ l.take k, p u = false
  | [], i => .inl ⟨rfl, by simp⟩
  | t :: r, i => by
    cases h : p t
    · rcases idxS_first p r (i + 1) with ⟨h1, h2⟩ | ⟨k, u, h1, h2, h3, h4⟩
      · exact .inl ⟨by unfold idxS; rw [h]; exact h1, by simpa [h] using h2⟩
      · exact .inr ⟨k + 1, u, by unfold idxS; rw [h, if_neg (by simp), h1]; congr 1; omega, by simpa using h2, h3, by simpa [h] using h4⟩
    · exact .inr ⟨0, t, by unfold idxS; rw [h]; rfl, rfl, h, by simp⟩
theorem filter_take_succ (p : Sp → Bool) {l : List Sp} {j : Nat} {t : Sp} (h : l[j]? = some t) : (l.take (j + 1)).filter p = (l.take j).filter p ++ (if p t then [t] else []) := by
  rw [List.take_add_one, h, List.filter_append]
  cases h2 : p t <;> simp [h2]
set_option maxRecDepth 100000 in
set_option maxHeartbeats 4000000 in
theorem deleteS_any (l : List Sp) (b cap : Nat) (w : World) (hs : SpB w b cap l) (hz : l.length ≤ 1000000) :
    Calls Tryd.prog 50 #[.slice (some ⟨b, 0, none⟩) l.length cap, .func (.func 47) #[] #[]] w fun e w' => e = .returned (.slice (some ⟨b, 0, none⟩) (l.filter neS).length cap) ∧ SpB w' b cap (l.filter neS) ∧ Fr (fun k => k = b) w w' := by
  have HC := Lib.hid (indexS_any 47 #[] noS (enters_of Tryd.func47 (by kernel_rfl) rfl) l (some ⟨b, 0, none⟩) cap w (fun _ => True) (hs.slc trivial) (fun t _ W _ => noneS_any t.1 t.2 W) hz)
  have HS := Lib.hid hs
  have hcl := hs.len
  have hlt := hs.lt
  rcases idxS_first noS l 0 with ⟨h1, h2⟩ | ⟨k, t0, h1, h2, h3, h4⟩
  · rw [h1] at HC
    have HF : Hid (l.filter neS = l) := by
      show _ = _
      rw [List.filter_eq_self]
      intro t ht
      rw [← noS_not, h2 t ht]; rfl
    clear h1 h2 hs
    go_enter Tryd.func50, Tryd.ntmps50
    go_wp2_with fail
    refine HC.out.mono ?_; rintro e w1 ⟨rfl, hq⟩
    go_wp2_with fail
    go_ret
    rw [HF.out]
    exact ⟨rfl, HS.out.stay hq, sp_fr hq⟩
  · rw [h1, Nat.zero_add] at HC
    have hk : k < l.length := by
      rcases Nat.lt_or_ge k l.length with h' | h'
      · exact h'
      · simp [List.getElem?_eq_none h'] at h2
    have hne : ((k : Int) == -1) = false := by simp
    have HT : Hid ((l.take (k + 1)).filter neS = l.take k) := by
      show _ = _
      have e0 : neS t0 = false := by rw [← noS_not, h3]; rfl
      rw [filter_take_succ neS h2, e0, List.filter_eq_self.2]
      · simp
      · intro u hu; rw [← noS_not, h4 u hu]; rfl
    clear h1 h2 h3 h4 hs
    go_enter Tryd.func50, Tryd.ntmps50
    go_wp2_with fail
    refine HC.out.mono ?_; rintro e w1 ⟨rfl, hq⟩
    have HQ := Lib.hid (sp_fr (S := fun k => k = b) hq)
    have HS1 := Lib.hid (HS.out.stay hq)
    clear hq HC HS
    go_wp2_with fail
    go_loopw [5, 6] (fun s t wr => ∃ (i j : Nat) (r : List Sp), s = .int .i64 i ∧ t = .int .i64 j ∧ i < j ∧ j ≤ l.length ∧ r.length = l.length ∧ r.take i = (l.take j).filter neS ∧ r.drop j = l.drop j ∧ SpB wr b cap r ∧ Fr (fun k => k = b) w wr) (fun _ t _ => l.length - (intOf t).toNat)
    case atStart => exact ⟨k, k + 1, l, rfl, by go_num, by omega, by omega, rfl, HT.out.symm, rfl, HS1.out, HQ.out⟩
    case round =>
      obtain ⟨i, j, r, rfl, rfl, hij, hjl, hrl, htk, hdr, hsb, hfr⟩ := hrel
      have HTK := Lib.hid htk
      have HDR := Lib.hid hdr
      have HSB := Lib.hid hsb
      have HFR := Lib.hid hfr
      have hwl := hfr.size
      by_cases hlt2 : j < l.length
      · have hlt' : (j : Int) < l.length := by omega
        obtain ⟨t, ht⟩ : ∃ t, r[j]? = some t := ⟨_, List.getElem?_eq_getElem (by omega)⟩
        have htl : l[j]? = some t := by
          have := congrArg (fun x => x[0]?) hdr
          simp only [List.getElem?_drop, Nat.add_zero] at this
          rw [← this]; exact ht
        obtain ⟨u, hu⟩ : ∃ u, r[i]? = some u := ⟨_, List.getElem?_eq_getElem (by omega)⟩
        obtain ⟨a0, a1, _, _⟩ := hsb.at ht
        have HU := Lib.hid hu
        have HFT := Lib.hid (filter_take_succ neS htl)
        have hne1 : b ≠ wr.heap.size := by omega
        obtain ⟨W0, hW0⟩ : ∃ W0, W0 = wr.alloc (.cells #[.int .i64 t.1, .int .i64 t.2] 41) := ⟨_, rfl⟩
        have hq0 : Quiet0 wr W0 := by rw [hW0]; exact Quiet0.alloc _ _
        have HN := Lib.hid (noneS_any t.1 t.2 W0)
        have HRL := Lib.hid hrl
        have b0 : W0.cell? ⟨wr.heap.size, 0, none⟩ = some (.int .i64 t.1) := by
          rw [hW0, cell_of_row _ _ _ _ _ (0, 0) (heap_alloc_new wr _)]; rfl
        have b1 : W0.cell? ⟨wr.heap.size, 1, none⟩ = some (.int .i64 t.2) := by
          rw [hW0, cell_of_row _ _ _ _ _ (0, 0) (heap_alloc_new wr _)]; rfl
        have HQ0 := Lib.hid hq0
        clear hq0
        have hil : i < r.length := by omega
        have HDS : Hid ((r.set i t).drop (j + 1) = l.drop (j + 1)) := by
          show _ = _
          rw [List.drop_set_of_lt (by omega), ← List.drop_drop, hdr, List.drop_drop]
        have HD1 : Hid (r.drop (j + 1) = l.drop (j + 1)) := by
          show _ = _
          rw [← List.drop_drop, hdr, List.drop_drop]
        have HTS : Hid ((r.set i t).take (i + 1) = r.take i ++ [t]) := by
          show _ = _
          rw [List.take_add_one, List.getElem?_set_self hil, List.take_set_of_le (Nat.le_refl i)]; rfl
        clear ht htl hu htk hdr hsb hfr hrl
        cases hb : noS t
        · have hb' : neS t = true := by rw [← noS_not, hb]; rfl
          have HB := Lib.hid hb'
          have hbd : decide (t.2 ≤ t.1) = false := hb
          rw [hbd] at HN
          clear hb hb' hbd
          go_wp2_with fail
          rw [← hW0]
          refine HN.out.mono ?_; rintro e w2 ⟨rfl, hq2⟩
          have c0 := hq2.at b0
          have c1 := hq2.at b1
          have hsb2 := (HSB.out.stay HQ0.out).stay hq2
          obtain ⟨e0, e1, e2, e3⟩ := hsb2.at HU.out
          have HSB2 := Lib.hid hsb2
          have HFR2 := Lib.hid ((HFR.out.trans (sp_fr HQ0.out)).trans (sp_fr hq2))
          clear hsb2 hq2 HN hW0
          go_wp2_with fail
          go_roundw
          case rel =>
            refine ⟨i + 1, j + 1, r.set i t, by go_num, by go_num, by omega, by omega, by rw [List.length_set]; exact HRL.out, ?_, HDS.out, HSB2.out.set2 hil, ?_⟩
            · rw [HTS.out, HFT.out, HB.out, HTK.out]; rfl
            · exact (HFR2.out.trans (Fr.setCell (fun k => k = b) _ ⟨b, i * 2, none⟩ _ rfl)).trans (Fr.setCell (fun k => k = b) _ ⟨b, i * 2 + 1, none⟩ _ rfl)
          case measure => simp [intOf]; omega
        · have hb' : neS t = false := by rw [← noS_not, hb]; rfl
          have HB := Lib.hid hb'
          have hbd : decide (t.2 ≤ t.1) = true := hb
          rw [hbd] at HN
          clear hb hb' hbd
          go_wp2_with fail
          rw [← hW0]
          refine HN.out.mono ?_; rintro e w2 ⟨rfl, hq2⟩
          have HSB2 := Lib.hid ((HSB.out.stay HQ0.out).stay hq2)
          have HFR2 := Lib.hid ((HFR.out.trans (sp_fr HQ0.out)).trans (sp_fr hq2))
          clear hq2 HN hW0
          go_wp2_with fail
          go_roundw
          case rel => exact ⟨i, j + 1, r, rfl, by go_num, by omega, by omega, HRL.out, by rw [HTK.out, HFT.out, HB.out]; simp, HD1.out, HSB2.out, HFR2.out⟩
          case measure => simp [intOf]; omega
      · obtain rfl : j = l.length := by omega
        have hltz : ¬ (l.length : Int) < (l.length : Int) := by omega
        obtain ⟨zs, hzs⟩ : ∃ zs, (Builtin.zeroCells (Value.cells (.agg #[.int .i64 0, .int .i64 0])) (l.length - i)).toList = zs := ⟨_, rfl⟩
        have HTL : Hid ((r.take i).length = i ∧ r.take i = l.filter neS) := by
          refine ⟨by rw [List.length_take]; omega, ?_⟩
          rw [htk, List.take_length]
        have hzl : zs.length = 2 * (l.length - i) := by rw [← hzs]; simp [Builtin.zeroCells, Value.cells, Nat.mul_comm]
        have hz1 : ∀ v ∈ zs, v.oneCell' = true := by
          rw [← hzs]; intro v hv
          simp only [Builtin.zeroCells, Value.cells, Array.toList_map, List.mem_map] at hv
          obtain ⟨i, _, rfl⟩ := hv
          rcases Nat.mod_two_eq_zero_or_one i with e | e <;> simp [e, Value.oneCell']
        have hroom : ∀ q, q < zs.length → (wr.cell? ⟨b, i * 2 + q, none⟩).isSome = true ∧ wr.frozen? ⟨b, i * 2 + q, none⟩ = false := fun q hq => hsb.room (by have := hsb.len.1; omega)
        have hcl : ∀ ty, (Builtin.clear_ #[22] ty #[.slice (some ⟨b, i * 2, none⟩) (l.length - i) (cap - i)]).run Tryd.prog wr = .ok (.tuple #[]) (wr.setCells b (i * 2) zs) :=
          fun ty => run_clear2 wr _ _ ty _ Tryd.underlying22 Tryd.zeroValue41 b _ _ _ (by omega) zs hzs hz1 (fun q hq => (hroom q hq).1) (fun q hq => (hroom q hq).2)
        have HEND := Lib.hid (SpB.pasts zs (i * 2) wr (hsb.take i) (by rw [HTL.out.1]; exact Nat.le_refl _))
        clear hzs hzl hz1 hroom htk hdr hsb hfr hrl
        go_wp2_with fail
        go_ret
        rw [← HTL.out.2, HTL.out.1]
        exact ⟨rfl, HEND.out.1, HFR.out.trans HEND.out.2⟩
end Go.Proofs.YtdlcakmjihfgfaaDoor
