/-
  slice.Lines, and the document's Lines. Conditions: the spans lie in memory as told; there are few; the text is short.
-/
import Derived.Test.YtdlcakmjihfgfaaDoorSlRef
import Derived.Test.YtdlcakmjihfgfaaDoorInts
import Derived.Test.YtdlcakmjihfgfaaDoorSpPlace
namespace Go.Proofs.YtdlcakmjihfgfaaDoor
open Go.RowKit Go.Shelf SpanPlain

/-- a row of numbers comes back, new -/
def NumQ (w : World) (l : List Int) (e : Ending) (w' : World) : Prop := ∃ o c, e = .returned (.slice o l.length c) ∧ Li.IntsAt w' o l ∧ l.length ≤ maxLen ∧ Quiet0 w w'
theorem lnI_bd (text : ByteArray) (i : Nat) : 1 ≤ lnI text i ∧ lnI text i ≤ (i : Int) + 1 := by
  unfold lnI; have := lineN_le text i; omega
theorem lnK_bd (text : ByteArray) (s : Nat × Nat) (h : s.1 < s.2) : lnK text s ≤ s.2 := by
  unfold lnK; have h1 := lnI_bd text (s.2 - 1); have h2 := lnI_bd text s.1; omega
theorem compact_le (zs : List Int) : (Lib.compact zs).length ≤ zs.length := by
  unfold Lib.compact Lib.compactUpTo
  rw [List.length_map]
  exact Nat.le_trans (List.length_filter_le _ _) (by simp)
theorem seqI_length (a : Int) (k : Nat) : (seqI a k).length = k := by simp [seqI]
theorem lines_step {text : ByteArray} {c : List (Nat × Nat)} {i : Nat} {p : Nat × Nat} (h : c[i]? = some p) : (c.take (i + 1)).flatMap (partLines text) = (c.take i).flatMap (partLines text) ++ seqI (lnI text p.1) (lnK text p) := by
  rw [List.take_add_one, h, List.flatMap_append]
  congr 1
  simp [partLines]
theorem place_nat (s : ByteArray) (i : Nat) (w : World) (hs : s.size ≤ 1000000) (hi : i ≤ s.size) :
    Calls Tryd.prog 28 #[.string s, .int .i64 (i : Int)] w fun e w' => ∃ z : Int, e = .returned (.tuple #[.int .i64 (lnI s i), .int .i64 z]) ∧ w = w' := by
  have h := place_any s (i : Int) w hs
  have e : aheadN s.size (i : Int) = i := by unfold aheadN; omega
  rw [e] at h
  exact h.mono (by rintro e w' ⟨rfl, rfl⟩; exact ⟨_, rfl, rfl⟩)
theorem refPlace_nat (s : ByteArray) (i : Nat) (w : World) (hs : s.size ≤ 1000000) (hi : i ≤ s.size) :
    Calls Tryd.prog 30 #[.string s, .int .i64 (i : Int)] w fun e w' => ∃ z : Int, e = .returned (.tuple #[.int .i64 (lnI s i), .int .i64 z]) ∧ w = w' := by
  have h := refPlace_any s (i : Int) w hs
  have e : aheadN s.size (i : Int) = i := by unfold aheadN; omega
  rw [e] at h
  exact h.mono (by rintro e w' ⟨rfl, rfl⟩; exact ⟨_, rfl, rfl⟩)
set_option maxRecDepth 100000 in
set_option maxHeartbeats 4000000 in
theorem linesS_any (text : ByteArray) (l : List Sp) (o : Option Addr) (cap : Nat) (w : World) (R : Nat → Prop) (hs : SpAt R w o l) (hz : l.length ≤ 100000) (hm : (rmerge l).length ≤ 100000) (hn : text.size ≤ 1000000) :
    Calls Tryd.prog 12 #[.string text, .slice o l.length cap] w (NumQ w (Lib.compact ((clipN text.size (rmerge l)).flatMap (partLines text)))) := by
  have hM := insideS_any text l o cap w R hs hz (by omega)
  rw [clipZ_N] at hM
  have HM := Lib.hid hM
  have hcl := clipN_length text.size (rmerge l)
  have hme : ∀ p ∈ clipN text.size (rmerge l), p.1 < p.2 ∧ p.2 ≤ text.size := fun p hp => clipN_mem hp
  obtain ⟨c, hc⟩ : ∃ c, clipN text.size (rmerge l) = c := ⟨_, rfl⟩
  rw [hc] at HM hcl hme
  rw [hc]
  have HME := Lib.hid hme
  have HL : Hid ((c.map toZ).length = c.length) := List.length_map _
  have hcl2 : c.length ≤ 100000 := by omega
  have HP := Lib.hid (fun (i : Nat) (W : World) (hi : i ≤ text.size) => place_nat text i W hn hi)
  clear hs hM hc hme hcl
  go_enter Tryd.func12, Tryd.ntmps12
  go_wp2_with fail
  refine HM.out.mono ?_; rintro e w1 ⟨v1, rfl, hr1, hq1⟩
  obtain ⟨o1, c1, rfl, hmx1⟩ := hr1.form
  have HR1 := Lib.hid hr1.slc
  have HQ1 := Lib.hid hq1
  rw [HL.out]
  clear hr1 hq1 HM hmx1
  go_wp2_with fail
  go_loopw [5, 17] (fun v t wr => ∃ (i : Nat) (out : List Int), t = .int .i64 i ∧ i ≤ c.length ∧ Li.IntRow wr w1.heap.size v out ∧ out = (c.take i).flatMap (partLines text) ∧ out.length ≤ i * 1000000 ∧ Quiet0 w1 wr) (fun _ t _ => c.length - (intOf t).toNat)
  case atStart => exact ⟨0, [], rfl, Nat.zero_le _, Li.IntRow.nil _ _, rfl, Nat.zero_le _, Quiet0.refl _⟩
  case round =>
    obtain ⟨i, out, rfl, hi, hrow, hout, hol, hq⟩ := hrel
    have HQ := Lib.hid hq
    have HOUT := Lib.hid hout
    by_cases hlt : i < c.length
    · have hlt' : (i : Int) < c.length := by omega
      obtain ⟨p, hp⟩ : ∃ p, c[i]? = some p := ⟨_, List.getElem?_eq_getElem hlt⟩
      obtain ⟨x, y⟩ := p
      obtain ⟨hp1, hp2⟩ := HME.out _ (List.mem_of_getElem? hp)
      have hxy : x < y := hp1
      have hyn : y ≤ text.size := hp2
      have hy1 : (y : Int) - 1 = ((y - 1 : Nat) : Int) := by omega
      obtain ⟨b, off, rfl, _, a0, a1⟩ := HR1.out.stay hq i _ (toZ_get hp)
      have HN := Lib.hid (lines_step (text := text) hp)
      have hkb := lnK_bd text (x, y) hxy
      have hb1 := lnI_bd text x
      have hb2 := lnI_bd text (y - 1)
      have hmn := lnI_mono text x (y - 1) (by omega) (by omega)
      have hkv : lnI text x + (lnK text (x, y) : Int) = lnI text (y - 1) + 1 := by unfold lnK; simp only; omega
      have HP1 := Lib.hid (fun W => HP.out x W (by omega))
      have HP2 := Lib.hid (fun W => HP.out (y - 1) W (by omega))
      generalize lnI text x = F at *
      generalize lnI text (y - 1) = L at *
      generalize lnK text (x, y) = K at *
      obtain ⟨vo, vc, rfl, hmx, _⟩ := hrow.form
      have HROW := Lib.hid hrow
      have HKV := Lib.hid hkv
      have hkb' : K ≤ y := hkb
      have HY1 := Lib.hid hy1
      clear hp hq hp1 hp2 hrow hout hkv hkb hmn hy1
      go_wp2_with fail
      refine (HP1.out _).mono ?_; rintro e w2 ⟨z1, rfl, rfl⟩
      go_wp2_with fail
      rw [HY1.out]
      refine (HP2.out _).mono ?_; rintro e w2 ⟨z2, rfl, rfl⟩
      have hq0 := Quiet0.alloc wr (.cells #[.int .i64 x, .int .i64 y] 41)
      have HQ0 := Lib.hid (HQ.out.trans hq0)
      have HROW0 := Lib.hid (HROW.out.stay hq0)
      clear hq0 a0 a1
      go_wp2_with fail
      generalize wr.alloc (.cells #[.int .i64 x, .int .i64 y] 41) = W0 at *
      go_loopw [5, 12] (fun v t wx => ∃ (k : Nat), t = .int .i64 (F + k) ∧ k ≤ K ∧ Li.IntRow wx w1.heap.size v (out ++ seqI F k) ∧ Quiet0 w1 wx) (fun _ t _ => (L + 1 - intOf t).toNat)
      case atStart => exact ⟨0, by simp, Nat.zero_le _, by rw [show seqI F 0 = [] from rfl, List.append_nil]; exact HROW0.out, HQ0.out⟩
      case round =>
        obtain ⟨k, rfl, hk, hrowk, hqk⟩ := hrel
        have HQK := Lib.hid hqk
        have hln : (out ++ seqI F k).length = out.length + k := by rw [List.length_append, seqI_length]
        have HN2 := Lib.hid (seqI_succ F k)
        obtain ⟨vo, vc, rfl, hmx, _⟩ := hrowk.form
        have HROWK := Lib.hid hrowk
        clear hrowk hqk
        by_cases hlk : k < K
        · have hlk' : F + k ≤ L := by have := HKV.out; omega
          rw [hln]
          have HLN := Lib.hid hln
          clear hln
          generalize hou : out ++ seqI F k = ou at *
          have HOU := Lib.hid hou
          have hz8 : out.length + k = ou.length := HLN.out.symm
          clear hou
          rw [hz8]
          go_wp2_with (at_builtin; refine wpList_append_one wr rfl (.tmp 42) (.tmp 44) 27 rfl 3 _ 1 8 Li.elemInt (.slice vo ou.length vc) ou.length (Li.ints ou) rfl HROWK.out.own #[.int .i64 (F + k)] rfl rfl (by simp [Value.oneCell']) (by unfold maxLen; omega) (by omega) ?_; intro g c' w4 ho hf hg)
          have HR2 : Hid (Li.IntRow w4 w1.heap.size (.slice (some ⟨g, 0, none⟩) (ou.length + 1) c') (ou ++ [F + k])) := by
            show Li.IntRow _ _ _ _
            exact Li.IntRow.snoc HROWK.out ho hg HQK.out.size
          have HQ2 : Hid (Quiet0 w1 w4) := Lib.hid (Fr.trans' HQK.out hf (fun kk hkk h => by have := HROWK.out.low kk h; omega))
          clear ho hf hg
          go_wp2_with fail
          go_roundw
          case rel => exact ⟨k + 1, by go_num, by omega, by rw [HN2.out, ← List.append_assoc, HOU.out]; exact HR2.out, HQ2.out⟩
          case measure => simp [intOf]; omega
        · have hlk' : ¬ F + k ≤ L := by have := HKV.out; omega
          have hkK : k = K := by omega
          subst hkK
          have hle : out.length + k ≤ (i + 1) * 1000000 := by omega
          go_wp2_with fail
          go_roundw
          case rel => exact ⟨i + 1, out ++ seqI F k, by go_num, by omega, HROWK.out, by rw [HN.out, ← HOUT.out], by rw [hln]; exact hle, HQK.out⟩
          case measure => simp [intOf]; omega
    · have hlt' : ¬ (i : Int) < c.length := by omega
      have hfin : c.take i = c := List.take_of_length_le (by omega)
      rw [hfin] at hout
      have HO := Lib.hid hout
      obtain ⟨vo, vc, rfl, hmx, hcap, hat, hblk⟩ := hrow.form
      have hmx' := hmx
      unfold maxLen at hmx'
      by_cases h0 : 0 < out.length
      · obtain ⟨g, rfl, hgB, cur, hcur⟩ := hblk h0
        have hH : Go.Sort.Holds (Value.int .i64) wr g 0 out.toArray := by
          intro j hj
          have hj' : j < out.length := by simpa using hj
          obtain ⟨b, off, e1, e2⟩ := hat j out[j] (List.getElem?_eq_getElem hj')
          cases e1
          refine ⟨?_, by simp [World.frozen?, hcur]⟩
          rw [e2, getElem!_pos _ j hj]; simp
        have HCP := Lib.hid (Tryd.slices_Compact_int g 0 vc out wr hH (by omega) hcap)
        have hle := compact_le out
        have HCUR := Lib.hid hcur
        have hrb := hrow.own.lt g rfl
        have HH := Lib.hid hH
        clear hat hblk hcur hrow hq hH hout
        go_wp2_with fail
        refine HCP.out.mono ?_; rintro e w5 ⟨rfl, q, hw5⟩
        have hgl : g < wr.heap.size := hrb.2
        have hF5 : Fr (fun k => k = g) wr w5 := by
          rw [hw5]
          unfold Go.Sort.putRow Go.Sort.mapBlock
          refine ⟨rfl, rfl, rfl, ?_, fun k hk hs => ?_⟩
          · simp [Go.Sort.ahead]
          · simp only [Go.Sort.ahead, Array.getElem?_modify]
            rw [if_neg (fun e => hs e.symm)]
        have hat5 : Li.IntsAt w5 (some ⟨g, 0, none⟩) (Lib.compact out) := by
          intro j x hx
          refine ⟨g, 0, rfl, ?_⟩
          have hjl := (List.getElem?_eq_some_iff.1 hx).1
          have hjx := (List.getElem?_eq_some_iff.1 hx).2
          have hsz : (Lib.compact out ++ List.replicate (out.length - (Lib.compact out).length) 0).toArray.size = out.toArray.size := by simp; omega
          have h1 := Go.Sort.cell?_putRow (Value.int .i64) (Go.Sort.ahead wr q) g 0 out.toArray _ (Go.Sort.holds_ahead _ _ _ _ _ _ HH.out) hsz j (by rw [hsz]; simp; omega)
          rw [hw5, h1]
          congr 2
          rw [getElem!_pos _ j (by rw [hsz]; simp; omega)]
          simp [List.getElem_append_left hjl, hjx]
        have HF5 := Lib.hid hF5
        have HAT5 := Lib.hid hat5
        clear hw5 hF5 hat5
        go_wp2_with fail
        go_ret
        rw [← HO.out]
        refine ⟨_, _, rfl, HAT5.out, by unfold maxLen; omega, HQ1.out.trans (HQ.out.trans' HF5.out (fun kk hkk h => by omega))⟩
      · have he : out = [] := List.eq_nil_of_length_eq_zero (by omega)
        subst he
        have HCP := Lib.hid (Tryd.slices_Compact_int_empty vo vc wr)
        clear hat hblk hrow hq hout
        go_wp2_with fail
        refine HCP.out.mono ?_; rintro e w5 ⟨rfl, rfl⟩
        go_wp2_with fail
        go_ret
        rw [← HO.out]
        exact ⟨_, _, rfl, fun j x hx => absurd hx (by simp [Lib.compact, Lib.compactUpTo]), by simp [Lib.compact, Lib.compactUpTo], HQ1.out.trans HQ.out⟩
theorem getLast_snoc {l : List Int} {k : Nat} (h : l.length = k + 1) : ∃ z, l[k]? = some z ∧ l.getLast? = some z := by
  refine ⟨l[k], List.getElem?_eq_getElem (by omega), ?_⟩
  have e : l.length - 1 = k := by omega
  rw [List.getLast?_eq_getElem?, e]
  exact List.getElem?_eq_getElem (by omega)
set_option maxRecDepth 100000 in
set_option maxHeartbeats 4000000 in
theorem refLinesS_any (text : ByteArray) (l : List Sp) (o : Option Addr) (cap : Nat) (w : World) (R : Nat → Prop) (hs : SpAt R w o l) (hz : l.length ≤ 1000000) (hn : text.size ≤ 1000000) (fin : List Int) (hfin : run (linesStep text (hasN l)) 0 text.size [] = fin) :
    Calls Tryd.prog 13 #[.string text, .slice o l.length cap] w (NumQ w fin) := by
  have HIN := Lib.hid (fun (i : Int) (W : World) (hq : Quiet0 w W) => refInS_any text i l o cap W R (hs.stay hq) hz hn)
  have HP := Lib.hid (fun (i : Nat) (W : World) (hi : i ≤ text.size) => refPlace_nat text i W hn hi)
  have HFIN := Lib.hid hfin
  clear hs hfin
  go_enter Tryd.func13, Tryd.ntmps13
  go_wp2_with fail
  go_loopw [5, 6] (fun v t wr => ∃ (i : Nat) (out : List Int), t = .int .i64 i ∧ i ≤ text.size ∧ Li.IntRow wr w.heap.size v out ∧ run (linesStep text (hasN l)) i text.size out = fin ∧ out.length ≤ i ∧ Quiet0 w wr) (fun _ t _ => text.size - (intOf t).toNat)
  case atStart => exact ⟨0, [], rfl, Nat.zero_le _, Li.IntRow.nil _ _, HFIN.out, Nat.le_refl _, Quiet0.refl _⟩
  case round =>
    obtain ⟨i, out, rfl, hi, hrow, hr, hol, hq⟩ := hrel
    have HR := Lib.hid hr
    have HQ := Lib.hid hq
    by_cases hlt : i < text.size
    · have hlt' : (i : Int) < text.size := by omega
      have HN : Hid (run (linesStep text (hasN l)) (i + 1) text.size (linesStep text (hasN l) out i) = fin) := by
        show _ = _; rw [← HR.out, run_append _ i (i + 1) _ (by omega) (by omega), run_one]
      have H0 := HIN.out (i : Int) wr hq
      rw [inI_nat] at H0
      obtain ⟨b0, hb0⟩ : ∃ b0, inM text.size (hasN l) i = b0 := ⟨_, rfl⟩
      rw [hb0] at H0
      have HC0 := Lib.hid H0
      have HP0 := Lib.hid (HP.out i wr (by omega))
      obtain ⟨F, hF⟩ : ∃ F, lnI text i = F := ⟨_, rfl⟩
      rw [hF] at HP0
      have HB := Lib.hid (And.intro hb0 hF)
      obtain ⟨vo, vc, rfl, hmx, hcap, hat, hblk⟩ := hrow.form
      have HROW := Lib.hid hrow
      clear H0 hb0 hF hr hq hrow hblk
      cases b0
      · have HM : Hid (linesStep text (hasN l) out i = out) := by show _ = _; unfold linesStep; simp [HB.out.1]
        rw [HM.out] at HN
        clear hat
        go_wp2_with fail
        refine HP0.out.mono ?_; rintro e w1 ⟨z, rfl, rfl⟩
        go_wp2_with fail
        refine HC0.out.mono ?_; rintro e w1 ⟨rfl, rfl⟩
        go_wp2_with fail
        go_roundw
        case rel => exact ⟨i + 1, out, by go_num, by omega, HROW.out, HN.out, by omega, HQ.out⟩
        case measure => simp [intOf]; omega
      · have HM : Hid (linesStep text (hasN l) out i = cstep out F) := by show _ = _; unfold linesStep; simp [HB.out.1, HB.out.2]
        rw [HM.out] at HN
        by_cases h0 : out.length = 0
        · have he : out = [] := List.eq_nil_of_length_eq_zero h0
          have HCS : Hid (cstep out F = out ++ [F]) := by show _ = _; rw [he]; rfl
          have hl0 : ((out.length : Int) == 0) = true := by simp [h0]
          clear hat h0 he
          go_wp2_with fail
          refine HP0.out.mono ?_; rintro e w1 ⟨z, rfl, rfl⟩
          go_wp2_with fail
          refine HC0.out.mono ?_; rintro e w1 ⟨rfl, rfl⟩
          go_wp2_with (at_builtin; refine wpList_append_one wr rfl (.tmp 40) (.tmp 42) 27 rfl 3 _ 1 8 Li.elemInt (.slice vo out.length vc) out.length (Li.ints out) rfl HROW.out.own #[.int .i64 F] rfl rfl (by simp [Value.oneCell']) (by unfold maxLen; omega) (by omega) ?_; intro g c' w4 ho hf hg)
          have HR2 : Hid (Li.IntRow w4 w.heap.size (.slice (some ⟨g, 0, none⟩) (out.length + 1) c') (out ++ [F])) := by
            show Li.IntRow _ _ _ _
            exact Li.IntRow.snoc HROW.out ho hg HQ.out.size
          have HQ2 : Hid (Quiet0 w w4) := Lib.hid (Fr.trans' HQ.out hf (fun kk hkk h => by have := HROW.out.low kk h; omega))
          clear ho hf hg
          go_wp2_with fail
          go_roundw
          case rel => exact ⟨i + 1, out ++ [F], by go_num, by omega, HR2.out, by rw [← HCS.out]; exact HN.out, by rw [List.length_append, List.length_singleton]; omega, HQ2.out⟩
          case measure => simp [intOf]; omega
        · obtain ⟨k, hk⟩ : ∃ k, out.length = k + 1 := ⟨out.length - 1, by omega⟩
          obtain ⟨z, hz1, hz2⟩ := getLast_snoc hk
          obtain ⟨b, off, rfl, hcell⟩ := hat k z hz1
          have hl0 : ((out.length : Int) == 0) = false := beq_eq_false_iff_ne.2 (by omega)
          have hl1 : (out.length : Int) - 1 = (k : Int) := by omega
          have hkl : (k : Int) < out.length := by omega
          have HL1 := Lib.hid hl1
          by_cases hzF : z = F
          · have HCS : Hid (cstep out F = out) := by show _ = _; exact cstep_same (by rw [hz2, hzF])
            subst hzF
            clear hat h0 hz1 hz2 hk hl1
            go_wp2_with fail
            refine HP0.out.mono ?_; rintro e w1 ⟨z9, rfl, rfl⟩
            go_wp2_with fail
            refine HC0.out.mono ?_; rintro e w1 ⟨rfl, rfl⟩
            have hl1 := HL1.out
            go_wp2_with fail
            go_roundw
            case rel => exact ⟨i + 1, out, by go_num, by omega, HROW.out, by rw [← HCS.out]; exact HN.out, by omega, HQ.out⟩
            case measure => simp [intOf]; omega
          · have HCS : Hid (cstep out F = out ++ [F]) := by show _ = _; unfold cstep; rw [if_neg (by rw [hz2]; intro h; exact hzF (Option.some.inj h))]
            have hzF' : (z != F) = true := by simpa using hzF
            clear hat h0 hz1 hz2 hk hl1 hzF
            go_wp2_with fail
            refine HP0.out.mono ?_; rintro e w1 ⟨z9, rfl, rfl⟩
            go_wp2_with fail
            refine HC0.out.mono ?_; rintro e w1 ⟨rfl, rfl⟩
            have hl1 := HL1.out
            go_wp2_with (at_builtin; refine wpList_append_one wr rfl (.tmp 40) (.tmp 42) 27 rfl 3 _ 1 8 Li.elemInt (.slice (some ⟨b, off, none⟩) out.length vc) out.length (Li.ints out) rfl HROW.out.own #[.int .i64 F] rfl rfl (by simp [Value.oneCell']) (by unfold maxLen; omega) (by omega) ?_; intro g c' w4 ho hf hg)
            have HR2 : Hid (Li.IntRow w4 w.heap.size (.slice (some ⟨g, 0, none⟩) (out.length + 1) c') (out ++ [F])) := by
              show Li.IntRow _ _ _ _
              exact Li.IntRow.snoc HROW.out ho hg HQ.out.size
            have HQ2 : Hid (Quiet0 w w4) := Lib.hid (Fr.trans' HQ.out hf (fun kk hkk h => by have := HROW.out.low kk h; omega))
            clear ho hf hg
            go_wp2_with fail
            go_roundw
            case rel => exact ⟨i + 1, out ++ [F], by go_num, by omega, HR2.out, by rw [← HCS.out]; exact HN.out, by rw [List.length_append, List.length_singleton]; omega, HQ2.out⟩
            case measure => simp [intOf]; omega
    · have hlt' : ¬ (i : Int) < text.size := by omega
      have HY : Hid (out = fin) := by
        show _ = _; have := HR.out; have e : i = text.size := by omega
        rw [e, run_same] at this; exact this
      obtain ⟨vo, vc, rfl, hmx, hcap, hat, hblk⟩ := hrow.form
      have HAT := Lib.hid hat
      clear hr hq hrow hat hblk
      go_wp2_with fail
      go_ret
      rw [← HY.out]
      exact ⟨_, _, rfl, HAT.out, hmx, HQ.out⟩
end Go.Proofs.YtdlcakmjihfgfaaDoor
