/-
  The law SpanOrder: it returns true. Conditions: the spans and the bytes lie in memory.
-/
import Derived.Test.YtemoohepiogdgaaSpAwake
import Derived.Test.YtemoohepiogdgaaSpWithin
import Derived.Test.YtemoohepiogdgaaSpOpenB
import Derived.IntWalk
namespace Go.Proofs.Ytemoohepiogdgaa
open Go.RowKit Go.Shelf SpanPlain

theorem rmerge_same {a b : List Sp} (h : ∀ x, x ∈ a ↔ x ∈ b) : rmerge a = rmerge b := by
  refine canon_unique _ _ (rmerge_canon a) (rmerge_canon b) (fun x => ?_)
  rw [rmerge_cov, rmerge_cov]
  unfold Cov
  constructor
  · rintro ⟨s, hs, k⟩; exact ⟨s, (h s).1 hs, k⟩
  · rintro ⟨s, hs, k⟩; exact ⟨s, (h s).2 hs, k⟩
theorem rmerge_twice (a : List Sp) : rmerge (rmerge a) = rmerge a := by
  refine canon_unique _ _ (rmerge_canon _) (rmerge_canon a) (fun x => ?_)
  rw [rmerge_cov]
theorem within_self (a : List Sp) : (!a.any (outP a)) = true := by
  rw [Bool.not_eq_true', List.any_eq_false]
  intro s hs
  unfold outP
  have : a.any (inP s) = true := by
    rw [List.any_eq_true]
    exact ⟨s, hs, by unfold inP; simp⟩
  simp [this]
theorem canon_at {m : List Sp} (h : Canon m) {i : Nat} {x y : Int} (hi : m[i]? = some (x, y)) : x < y := h.1 _ (List.mem_of_getElem? hi)
theorem canon_next {m : List Sp} (h : Canon m) {i : Nat} {x y u v : Int} (hi : m[i]? = some (x, y)) (hj : m[i + 1]? = some (u, v)) : y < u := by
  have h2 := List.pairwise_iff_getElem.1 h.2
  obtain ⟨k1, e1⟩ := List.getElem?_eq_some_iff.1 hi
  obtain ⟨k2, e2⟩ := List.getElem?_eq_some_iff.1 hj
  have := h2 i (i + 1) k1 k2 (by omega)
  rw [e1, e2] at this
  exact this
set_option maxRecDepth 100000 in
set_option maxHeartbeats 8000000 in
theorem spanOrder_all (l : List Sp) (o : Option Addr) (cap : Nat) (o2 : Option Addr) (len2 cap2 : Nat) (C : Nat → Nat) (w : World) (hs : SpAt (fun _ => True) w o l) (hma : l.length ≤ 9223372036854775807) (hb : SpBytesAt w o2 len2 C) (hl2 : len2 ≤ 9223372036854775807) :
    Calls Try.prog 4 #[.slice o l.length cap, .slice o2 len2 cap2] w fun e w' => e = .returned (.bool true) ∧ Quiet0 w w' := by
  have HS := Lib.hid hs
  have HB := Lib.hid hb
  have HA : Hid (∀ W, Calls Try.prog 8 #[] W fun e w' => e = .returned (.bool true) ∧ Quiet0 W w') := fun W => awakeS_any W
  clear hs hb
  by_cases h40 : 40 < l.length
  · have h40' : (40 : Int) < (l.length : Int) := by omega
    go_enter Try.func4, Try.ntmps4
    go_wp2_with fail
    refine (HA.out _).mono ?_; rintro e w1 ⟨rfl, hq⟩
    go_wp2_with fail
    go_ret
    exact ⟨rfl, hq⟩
  · have h40' : ¬ (40 : Int) < (l.length : Int) := by omega
    by_cases g80 : 80 < len2
    · have g80' : (80 : Int) < (len2 : Int) := by omega
      go_enter Try.func4, Try.ntmps4
      go_wp2_with fail
      refine (HA.out _).mono ?_; rintro e w1 ⟨rfl, hq⟩
      go_wp2_with fail
      go_ret
      exact ⟨rfl, hq⟩
    · have g80' : ¬ (80 : Int) < (len2 : Int) := by omega
      obtain ⟨n, hn⟩ : ∃ n, l.length = n := ⟨_, rfl⟩
      have HL := Lib.hid hn
      have hML := rmerge_length l
      have HM1 : Hid (∀ W, Quiet0 w W → Calls Try.prog 10 #[.slice o n cap] W (SpPost W (rmerge l))) := fun W hq => by rw [← hn]; exact merge_any l o cap W _ (HS.out.stay hq) (by omega)
      have HTW := Lib.hid (rmerge_twice l)
      have HCN := Lib.hid (rmerge_canon l)
      have HSA := Lib.hid (fun (b : List Sp) (h : ∀ x, x ∈ b ↔ x ∈ l) => rmerge_same h)
      obtain ⟨m, hm⟩ : ∃ m, rmerge l = m := ⟨_, rfl⟩
      have HMD := Lib.hid hm
      rw [hm] at HM1 HCN hML
      rw [hn] at h40 h40' hML
      rw [hn]
      clear hma hn hm
      go_enter Try.func4, Try.ntmps4
      go_wp2_with fail
      refine (HM1.out _ (Quiet0.refl _)).mono ?_; rintro e w1 ⟨v1, rfl, hr1, hq1⟩
      obtain ⟨o1, c1, rfl, _⟩ := hr1.form
      have HR1 := Lib.hid hr1.slc
      have HQ1 := Lib.hid hq1
      clear hr1 hq1
      go_wp2_with fail
      go_loopw [6, 7] (fun v t wr => ∃ (j : Nat) (out : List Sp), t = .int .i64 ((n : Int) - 1 - j) ∧ j ≤ n ∧ SpRow wr w1.heap.size v out ∧ (∀ x, x ∈ out ↔ x ∈ l.drop (n - j)) ∧ out.length = j ∧ Quiet0 w1 wr) (fun _ t _ => (intOf t + 1).toNat)
      case atStart => exact ⟨0, [], by simp, Nat.zero_le _, SpRow.nil _ _, (fun x => by rw [List.drop_of_length_le (by have := HL.out; omega)]), rfl, Quiet0.refl _⟩
      case round =>
        obtain ⟨j, out, rfl, hj, hrow, hmem, hlen, hq⟩ := hrel
        have HROW := Lib.hid hrow
        have HMEM := Lib.hid hmem
        have HQ := Lib.hid hq
        obtain ⟨vo, vc, rfl, hmx⟩ := hrow.form
        obtain ⟨i, hi⟩ : ∃ i : Int, i = (n : Int) - 1 - j := ⟨_, rfl⟩
        have HI := Lib.hid hi
        rw [← hi]
        by_cases hlt : j < n
        · obtain ⟨k, hk⟩ : ∃ k : Nat, i = k := ⟨i.toNat, by omega⟩
          have hkn : k < n := by omega
          have hkj : n - j = k + 1 := by omega
          obtain ⟨s, hsk⟩ : ∃ s, l[k]? = some s := ⟨_, List.getElem?_eq_getElem (by have := HL.out; omega)⟩
          obtain ⟨x, y⟩ := s
          obtain ⟨b1, off1, rfl, _, a0, a1⟩ := HS.out.stay (HQ1.out.trans hq) k _ hsk
          have HM2 : Hid (∀ z, z ∈ out ++ [(x, y)] ↔ z ∈ l.drop (n - (j + 1))) := by
            intro z
            have e : n - (j + 1) = k := by omega
            rw [e, sp_drop hsk]
            simp only [List.mem_append, List.mem_cons, List.not_mem_nil, or_false]
            rw [HMEM.out, hkj]
            exact Or.comm
          have HJ := Lib.hid hlen
          have hol : out.length ≤ 40 := by omega
          have hk0 : (0 : Int) ≤ (k : Int) := by omega
          have hkn' : (k : Int) < (n : Int) := by omega
          have HK : Hid ((n : Int) - 1 - ((j : Nat) + 1 : Nat) = (k : Int) - 1) := by show _ = _; omega
          have HKJ : Hid (j + 1 ≤ n) := hlt
          subst hk
          clear hsk hrow hmem hq hi hlen hkj
          go_wp2_with (at_builtin; refine wpList_append_one wr rfl (.tmp 28) (.tmp 33) 22 rfl 25 _ 2 16 elemSp (.slice vo out.length vc) out.length (flat out) rfl HROW.out.own #[.int .i64 x, .int .i64 y] rfl rfl (by simp [Value.oneCell']) (by unfold maxLen; omega) (by omega) ?_; intro g c' w4 ho hf hg)
          have HR2 : Hid (SpRow w4 w1.heap.size (.slice (some ⟨g, 0, none⟩) (out.length + 1) c') (out ++ [(x, y)])) := by
            show SpRow _ _ _ _
            exact SpRow.snoc (x := x) (y := y) HROW.out ho hg HQ.out.size
          have HQ2 : Hid (Quiet0 w1 w4) := Lib.hid (Fr.trans' HQ.out hf (fun kk hkk h => by have := HROW.out.low kk h; omega))
          clear ho hf hg
          go_wp2_with fail
          go_roundw
          case rel => exact ⟨j + 1, out ++ [(x, y)], by rw [HK.out], HKJ.out, HR2.out, HM2.out, by rw [List.length_append, HJ.out]; rfl, HQ2.out⟩
          case measure => first | (simp [intOf]; done) | (simp [intOf]; omega)
        · have hi0 : ¬ (0 : Int) ≤ i := by omega
          have hmem2 : ∀ x, x ∈ out ↔ x ∈ l := by
            intro x; rw [hmem]
            have e : n - j = 0 := by omega
            rw [e]; rfl
          have HMEM2 := Lib.hid hmem2
          have hol : out.length ≤ n := by omega
          clear hmem hmem2 hrow hq hi hlen HMEM HI hlt hj
          go_wp2_with fail
          have HW2Q := HQ.out
          go_loopw [6, 8] (fun v t w3 => ∃ (i : Nat) (out2 : List Sp), t = .int .i64 i ∧ i ≤ len2 ∧ SpRow w3 w1.heap.size v out2 ∧ (∀ x, x ∈ out2 ↔ x ∈ l) ∧ out2.length ≤ n + i ∧ Quiet0 w1 w3) (fun _ t _ => len2 - (intOf t).toNat)
          case atStart => exact ⟨0, out, rfl, Nat.zero_le _, HROW.out, HMEM2.out, by omega, HQ.out⟩
          case round =>
            obtain ⟨i2, out2, rfl, hi2, hrow2, hmem2, hlen2, hq2⟩ := hrel
            clear HROW HMEM2 HQ HW2Q hol hmx
            obtain ⟨vo2, vc2, rfl, hmx2⟩ := hrow2.form
            by_cases hlt2 : i2 < len2
            · have hlt2' : (i2 : Int) < len2 := by omega
              by_cases hn0 : 0 < n
              · have hn0' : (0 : Int) < n := by omega
                obtain ⟨bb, boff, rfl, e0, hC⟩ := (HB.out.fr (HQ1.out.trans hq2)) i2 hlt2
                obtain ⟨q, hq⟩ : ∃ q, C i2 % n = q := ⟨_, rfl⟩
                have hqn : q < n := by rw [← hq]; exact Nat.mod_lt _ hn0
                obtain ⟨s, hsk⟩ : ∃ s, l[q]? = some s := ⟨_, List.getElem?_eq_getElem (by have := HL.out; omega)⟩
                obtain ⟨x, y⟩ := s
                obtain ⟨b1, off1, rfl, _, a0, a1⟩ := HS.out.stay (HQ1.out.trans hq2) q _ hsk
                have hq1 : ((C i2 : Nat) : Int) % (n : Int) = (q : Int) := by rw [← hq]; simp
                have hq1t : ((C i2 : Nat) : Int).tmod (n : Int) = (q : Int) := by rw [Int.tmod_eq_emod_of_nonneg (by omega), hq1]
                have hqn' : (q : Int) < (n : Int) := by omega
                have hnz : ¬ n = 0 := by omega
                have HM2 : Hid (∀ z, z ∈ out2 ++ [(x, y)] ↔ z ∈ l) := by
                  intro z
                  simp only [List.mem_append, List.mem_cons, List.not_mem_nil, or_false]
                  rw [hmem2]
                  exact ⟨fun h => h.elim (fun h => h) (fun h => by rw [h]; exact List.mem_of_getElem? hsk), fun h => .inl h⟩
                have HROW2 := Lib.hid hrow2
                have HQ2 := Lib.hid hq2
                generalize hci : C i2 = ci at *
                have hol2 : out2.length ≤ 200 := by omega
                clear hq hsk hrow2 hmem2 hq2 hci
                go_wp2_with (at_builtin; refine wpList_append_one wr rfl (.tmp 46) (.tmp 58) 22 rfl 25 _ 2 16 elemSp (.slice vo2 out2.length vc2) out2.length (flat out2) rfl HROW2.out.own #[.int .i64 x, .int .i64 y] rfl rfl (by simp [Value.oneCell']) (by unfold maxLen; omega) (by omega) ?_; intro g c' w4 ho hf hg)
                have HR2 : Hid (SpRow w4 w1.heap.size (.slice (some ⟨g, 0, none⟩) (out2.length + 1) c') (out2 ++ [(x, y)])) := by
                  show SpRow _ _ _ _
                  exact SpRow.snoc (x := x) (y := y) HROW2.out ho hg HQ2.out.size
                have HQ22 : Hid (Quiet0 w1 w4) := Lib.hid (Fr.trans' HQ2.out hf (fun kk hkk h => by have := HROW2.out.low kk h; omega))
                clear ho hf hg hq1 hq1t
                go_wp2_with fail
                go_roundw
                case rel => exact ⟨i2 + 1, out2 ++ [(x, y)], by go_num, by omega, HR2.out, HM2.out, by rw [List.length_append, List.length_singleton]; omega, HQ22.out⟩
                case measure => simp [intOf]; omega
              · have hn0' : ¬ (0 : Int) < n := by omega
                have HROW3 := Lib.hid hrow2
                have HMEM3 := Lib.hid hmem2
                have HQ3 := Lib.hid hq2
                have hol3 : out2.length ≤ 1000 := by omega
                clear hrow2 hmem2 hq2
                go_wp2_with fail
                try clear hn0 hn0'
                go_loopw [9] (fun t w4 => ∃ (k : Nat), t = .int .i64 k ∧ k ≤ m.length ∧ Quiet0 wr w4) (fun t _ => m.length - (intOf t).toNat)
                case atStart => exact ⟨0, rfl, Nat.zero_le _, Quiet0.refl _⟩
                case round =>
                  obtain ⟨k, rfl, hk, hq4⟩ := hrel
                  have HQ4 := Lib.hid hq4
                  by_cases hkm : k < m.length
                  · have hkm' : (k : Int) < m.length := by omega
                    obtain ⟨s, hsk⟩ : ∃ s, m[k]? = some s := ⟨_, List.getElem?_eq_getElem hkm⟩
                    obtain ⟨x, y⟩ := s
                    obtain ⟨b1, off1, rfl, _, a0, a1⟩ := HR1.out.stay (HQ3.out.trans hq4) k _ hsk
                    have hxy := canon_at HCN.out hsk
                    have d0 : decide (y ≤ x) = false := by simp; omega
                    clear hq4
                    cases k with
                    | zero =>
                      have d1 : decide (0 < 0) = false := rfl
                      have d2 : decide ((0 : Int) < 0) = false := rfl
                      rw [Nat.zero_mul, Nat.add_zero] at a0 a1
                      clear hsk
                      go_wp2_with fail
                      go_quiet (fail)
                      go_wp2_with fail
                      go_roundw
                      case rel => exact ⟨1, by go_num, by omega, HQ4.out.trans (Quiet0.drewN _ _)⟩
                      case measure => simp [intOf]; omega
                    | succ k =>
                      obtain ⟨t, htk⟩ : ∃ t, m[k]? = some t := ⟨_, List.getElem?_eq_getElem (by omega)⟩
                      obtain ⟨u, v⟩ := t
                      obtain ⟨b2, off2, he2, _, c0, c1⟩ := HR1.out.stay (HQ3.out.trans HQ4.out) k _ htk
                      cases he2
                      have hvx := canon_next HCN.out htk hsk
                      have d3 : decide (x ≤ v) = false := by simp; omega
                      clear hsk htk
                      generalize hkk : k + 1 = k1 at *
                      have HKK := Lib.hid hkk
                      have hk0 : 0 < k1 := by omega
                      have d1 : decide (0 < k1) = true := by simp; omega
                      have hw1 : IntKind.i64.wrap ((k1 : Int) - 1) = (k : Int) := by rw [IntWalk.i64_in _ (by omega)]; omega
                      have HW1 := Lib.hid hw1
                      clear hw1
                      have hkl : (k : Int) < m.length := by omega
                      have hkl2 : k < m.length := by omega
                      clear hkk
                      go_wp2_with fail
                      have hw1 := HW1.out
                      go_quiet (fail)
                      clear hw1
                      go_wp2_with fail
                      go_roundw
                      case rel => exact ⟨k1 + 1, by go_num, by omega, HQ4.out.trans (Quiet0.drewN _ _)⟩
                      case measure => simp [intOf]; omega
                  · have hkm' : ¬ (k : Int) < m.length := by omega
                    clear hq4
                    have hqa := HQ1.out.trans (HQ3.out.trans HQ4.out)
                    have hom : rmerge out2 = m := by rw [HSA.out out2 HMEM3.out]; exact HMD.out
                    have hmm : rmerge m = m := by rw [← HMD.out]; exact HTW.out
                    have hml : m.length ≤ 1000 := by omega
                    have HE1 : Hid (∀ W, Quiet0 wr W → Calls Try.prog 10 #[.slice vo2 out2.length vc2] W (SpPost W m)) := by
                      intro W hq
                      have h := merge_any out2 vo2 vc2 W _ ((HROW3.out.stay (HQ4.out.trans hq)).slc) (by omega)
                      rw [hom] at h; exact h
                    have HE2 : Hid (∀ W, Quiet0 wr W → Calls Try.prog 10 #[.slice o1 m.length c1] W (SpPost W m)) := by
                      intro W hq
                      have h := merge_any m o1 c1 W _ (HR1.out.stay ((HQ3.out.trans HQ4.out).trans hq)) (by omega)
                      rw [hmm] at h; exact h
                    have HE3 : Hid (∀ W o c R, Quiet0 wr W → SpAt R W o m → Calls Try.prog 9 #[.slice o m.length c, .slice o1 m.length c1] W fun e w' => e = .returned (.bool true) ∧ Quiet0 W w') := by
                      intro W o c R hq hs
                      have h := refSameS_any m m o c o1 c1 W _ _ hs (HR1.out.stay ((HQ3.out.trans HQ4.out).trans hq)) (by omega) (by omega)
                      rw [show decide (m = m) = true from by simp] at h
                      exact h
                    have HE4 : Hid (∀ W, Quiet0 wr W → Calls Try.prog 13 #[.slice o n cap, .slice o1 m.length c1] W fun e w' => e = .returned (.bool true) ∧ Quiet0 W w') := by
                      intro W hq
                      have h := withinS_any l m o cap o1 c1 W _ _ (HS.out.stay (hqa.trans hq)) (HR1.out.stay ((HQ3.out.trans HQ4.out).trans hq)) (by have := HL.out; omega) (by omega) (by rw [HMD.out]; omega) (by rw [hmm]; omega)
                      rw [HMD.out, hmm, within_self, HL.out] at h
                      exact h
                    have HE5 : Hid (∀ W, Quiet0 wr W → Calls Try.prog 13 #[.slice o1 m.length c1, .slice o n cap] W fun e w' => e = .returned (.bool true) ∧ Quiet0 W w') := by
                      intro W hq
                      have h := withinS_any m l o1 c1 o cap W _ _ (HR1.out.stay ((HQ3.out.trans HQ4.out).trans hq)) (HS.out.stay (hqa.trans hq)) (by omega) (by have := HL.out; omega) (by rw [hmm]; omega) (by rw [HMD.out]; omega)
                      rw [HMD.out, hmm, within_self, HL.out] at h
                      exact h
                    have HQA := Lib.hid hqa
                    clear hqa hom hmm
                    go_wp2_with fail
                    refine (HE1.out _ (Quiet0.refl _)).mono ?_; rintro e z1 ⟨u1, rfl, hr5, hq5⟩
                    obtain ⟨p1, pc1, rfl, _⟩ := hr5.form
                    have HE6 := Lib.hid (HE3.out z1 p1 pc1 _ hq5 hr5.slc)
                    have HZ1 := Lib.hid hq5
                    clear hr5 hq5
                    go_wp2_with fail
                    refine HE6.out.mono ?_; rintro e z2 ⟨rfl, hq6⟩
                    have HZ2 := Lib.hid (HZ1.out.trans hq6)
                    clear hq6
                    go_wp2_with fail
                    refine (HE2.out _ HZ2.out).mono ?_; rintro e z3 ⟨u3, rfl, hr7, hq7⟩
                    obtain ⟨p3, pc3, rfl, _⟩ := hr7.form
                    have HE8 := Lib.hid (HE3.out z3 p3 pc3 _ (HZ2.out.trans hq7) hr7.slc)
                    have HZ3 := Lib.hid (HZ2.out.trans hq7)
                    clear hr7 hq7
                    go_wp2_with fail
                    refine HE8.out.mono ?_; rintro e z4 ⟨rfl, hq8⟩
                    have HZ4 := Lib.hid (HZ3.out.trans hq8)
                    clear hq8
                    go_wp2_with fail
                    refine (HE4.out _ HZ4.out).mono ?_; rintro e z5 ⟨rfl, hq9⟩
                    have HZ5 := Lib.hid (HZ4.out.trans hq9)
                    clear hq9
                    go_wp2_with fail
                    refine (HE5.out _ HZ5.out).mono ?_; rintro e z6 ⟨rfl, hq10⟩
                    have HZ6 := Lib.hid (HZ5.out.trans hq10)
                    clear hq10
                    go_wp2_with fail
                    refine (HA.out _).mono ?_; rintro e z7 ⟨rfl, hq11⟩
                    go_wp2_with fail
                    go_ret
                    exact ⟨rfl, (HQA.out.trans HZ6.out).trans hq11⟩
            · have hlt2' : ¬ (i2 : Int) < len2 := by omega
              have HROW3 := Lib.hid hrow2
              have HMEM3 := Lib.hid hmem2
              have HQ3 := Lib.hid hq2
              have hol3 : out2.length ≤ 1000 := by omega
              clear hrow2 hmem2 hq2
              go_wp2_with fail
              try clear hn0 hn0'
              go_loopw [9] (fun t w4 => ∃ (k : Nat), t = .int .i64 k ∧ k ≤ m.length ∧ Quiet0 wr w4) (fun t _ => m.length - (intOf t).toNat)
              case atStart => exact ⟨0, rfl, Nat.zero_le _, Quiet0.refl _⟩
              case round =>
                obtain ⟨k, rfl, hk, hq4⟩ := hrel
                have HQ4 := Lib.hid hq4
                by_cases hkm : k < m.length
                · have hkm' : (k : Int) < m.length := by omega
                  obtain ⟨s, hsk⟩ : ∃ s, m[k]? = some s := ⟨_, List.getElem?_eq_getElem hkm⟩
                  obtain ⟨x, y⟩ := s
                  obtain ⟨b1, off1, rfl, _, a0, a1⟩ := HR1.out.stay (HQ3.out.trans hq4) k _ hsk
                  have hxy := canon_at HCN.out hsk
                  have d0 : decide (y ≤ x) = false := by simp; omega
                  clear hq4
                  cases k with
                  | zero =>
                    have d1 : decide (0 < 0) = false := rfl
                    have d2 : decide ((0 : Int) < 0) = false := rfl
                    rw [Nat.zero_mul, Nat.add_zero] at a0 a1
                    clear hsk
                    go_wp2_with fail
                    go_quiet (fail)
                    go_wp2_with fail
                    go_roundw
                    case rel => exact ⟨1, by go_num, by omega, HQ4.out.trans (Quiet0.drewN _ _)⟩
                    case measure => simp [intOf]; omega
                  | succ k =>
                    obtain ⟨t, htk⟩ : ∃ t, m[k]? = some t := ⟨_, List.getElem?_eq_getElem (by omega)⟩
                    obtain ⟨u, v⟩ := t
                    obtain ⟨b2, off2, he2, _, c0, c1⟩ := HR1.out.stay (HQ3.out.trans HQ4.out) k _ htk
                    cases he2
                    have hvx := canon_next HCN.out htk hsk
                    have d3 : decide (x ≤ v) = false := by simp; omega
                    clear hsk htk
                    generalize hkk : k + 1 = k1 at *
                    have HKK := Lib.hid hkk
                    have hk0 : 0 < k1 := by omega
                    have d1 : decide (0 < k1) = true := by simp; omega
                    have hw1 : IntKind.i64.wrap ((k1 : Int) - 1) = (k : Int) := by rw [IntWalk.i64_in _ (by omega)]; omega
                    have HW1 := Lib.hid hw1
                    clear hw1
                    have hkl : (k : Int) < m.length := by omega
                    have hkl2 : k < m.length := by omega
                    clear hkk
                    go_wp2_with fail
                    have hw1 := HW1.out
                    go_quiet (fail)
                    clear hw1
                    go_wp2_with fail
                    go_roundw
                    case rel => exact ⟨k1 + 1, by go_num, by omega, HQ4.out.trans (Quiet0.drewN _ _)⟩
                    case measure => simp [intOf]; omega
                · have hkm' : ¬ (k : Int) < m.length := by omega
                  clear hq4
                  have hqa := HQ1.out.trans (HQ3.out.trans HQ4.out)
                  have hom : rmerge out2 = m := by rw [HSA.out out2 HMEM3.out]; exact HMD.out
                  have hmm : rmerge m = m := by rw [← HMD.out]; exact HTW.out
                  have hml : m.length ≤ 1000 := by omega
                  have HE1 : Hid (∀ W, Quiet0 wr W → Calls Try.prog 10 #[.slice vo2 out2.length vc2] W (SpPost W m)) := by
                    intro W hq
                    have h := merge_any out2 vo2 vc2 W _ ((HROW3.out.stay (HQ4.out.trans hq)).slc) (by omega)
                    rw [hom] at h; exact h
                  have HE2 : Hid (∀ W, Quiet0 wr W → Calls Try.prog 10 #[.slice o1 m.length c1] W (SpPost W m)) := by
                    intro W hq
                    have h := merge_any m o1 c1 W _ (HR1.out.stay ((HQ3.out.trans HQ4.out).trans hq)) (by omega)
                    rw [hmm] at h; exact h
                  have HE3 : Hid (∀ W o c R, Quiet0 wr W → SpAt R W o m → Calls Try.prog 9 #[.slice o m.length c, .slice o1 m.length c1] W fun e w' => e = .returned (.bool true) ∧ Quiet0 W w') := by
                    intro W o c R hq hs
                    have h := refSameS_any m m o c o1 c1 W _ _ hs (HR1.out.stay ((HQ3.out.trans HQ4.out).trans hq)) (by omega) (by omega)
                    rw [show decide (m = m) = true from by simp] at h
                    exact h
                  have HE4 : Hid (∀ W, Quiet0 wr W → Calls Try.prog 13 #[.slice o n cap, .slice o1 m.length c1] W fun e w' => e = .returned (.bool true) ∧ Quiet0 W w') := by
                    intro W hq
                    have h := withinS_any l m o cap o1 c1 W _ _ (HS.out.stay (hqa.trans hq)) (HR1.out.stay ((HQ3.out.trans HQ4.out).trans hq)) (by have := HL.out; omega) (by omega) (by rw [HMD.out]; omega) (by rw [hmm]; omega)
                    rw [HMD.out, hmm, within_self, HL.out] at h
                    exact h
                  have HE5 : Hid (∀ W, Quiet0 wr W → Calls Try.prog 13 #[.slice o1 m.length c1, .slice o n cap] W fun e w' => e = .returned (.bool true) ∧ Quiet0 W w') := by
                    intro W hq
                    have h := withinS_any m l o1 c1 o cap W _ _ (HR1.out.stay ((HQ3.out.trans HQ4.out).trans hq)) (HS.out.stay (hqa.trans hq)) (by omega) (by have := HL.out; omega) (by rw [hmm]; omega) (by rw [HMD.out]; omega)
                    rw [HMD.out, hmm, within_self, HL.out] at h
                    exact h
                  have HQA := Lib.hid hqa
                  clear hqa hom hmm
                  go_wp2_with fail
                  refine (HE1.out _ (Quiet0.refl _)).mono ?_; rintro e z1 ⟨u1, rfl, hr5, hq5⟩
                  obtain ⟨p1, pc1, rfl, _⟩ := hr5.form
                  have HE6 := Lib.hid (HE3.out z1 p1 pc1 _ hq5 hr5.slc)
                  have HZ1 := Lib.hid hq5
                  clear hr5 hq5
                  go_wp2_with fail
                  refine HE6.out.mono ?_; rintro e z2 ⟨rfl, hq6⟩
                  have HZ2 := Lib.hid (HZ1.out.trans hq6)
                  clear hq6
                  go_wp2_with fail
                  refine (HE2.out _ HZ2.out).mono ?_; rintro e z3 ⟨u3, rfl, hr7, hq7⟩
                  obtain ⟨p3, pc3, rfl, _⟩ := hr7.form
                  have HE8 := Lib.hid (HE3.out z3 p3 pc3 _ (HZ2.out.trans hq7) hr7.slc)
                  have HZ3 := Lib.hid (HZ2.out.trans hq7)
                  clear hr7 hq7
                  go_wp2_with fail
                  refine HE8.out.mono ?_; rintro e z4 ⟨rfl, hq8⟩
                  have HZ4 := Lib.hid (HZ3.out.trans hq8)
                  clear hq8
                  go_wp2_with fail
                  refine (HE4.out _ HZ4.out).mono ?_; rintro e z5 ⟨rfl, hq9⟩
                  have HZ5 := Lib.hid (HZ4.out.trans hq9)
                  clear hq9
                  go_wp2_with fail
                  refine (HE5.out _ HZ5.out).mono ?_; rintro e z6 ⟨rfl, hq10⟩
                  have HZ6 := Lib.hid (HZ5.out.trans hq10)
                  clear hq10
                  go_wp2_with fail
                  refine (HA.out _).mono ?_; rintro e z7 ⟨rfl, hq11⟩
                  go_wp2_with fail
                  go_ret
                  exact ⟨rfl, (HQA.out.trans HZ6.out).trans hq11⟩
end Go.Proofs.Ytemoohepiogdgaa
