/-
  Join of two that are there. Conditions: the forest lies in memory as told (FAt, Wood), steps stay small.
-/
import Derived.Test.YtibemcofkgbjhaaSmall
import Derived.Test.YtibemcofkgbjhaaWood
namespace Go.Proofs.Ytibemcofkgbjhaa
open Go.RowKit

def JoinPost (fb ub rb uc rc : Nat) (up : List Nat) (steps : Nat) (R : Nat → Nat) (a b : Nat) (w : World) (e : Ending) (w' : World) : Prop :=
  ∃ root oth up' rk' sets' st, ((root = R a ∧ oth = R b) ∨ (root = R b ∧ oth = R a)) ∧ e = .returned (.tuple #[.int .i64 (root : Nat), .bool (!(R a == R b))]) ∧
    FAt w' fb ub rb uc rc up' rk' sets' st ∧ Wood up' rk' (joined R root oth) sets' ∧ up'.length = up.length ∧ steps ≤ st ∧ st ≤ steps + 4 * Nat.log2 up.length + 4 ∧
    Fr (fun k => k = fb ∨ k = ub ∨ k = rb) w w' ∧ w'.heap.size = w.heap.size

theorem joined_self (R : Nat → Nat) (a : Nat) : joined R a a = R := by
  funext x; unfold joined; split
  · rename_i h; exact h.symm
  · rfl
theorem Fr.widen {fb ub rb : Nat} {w w' : World} (h : Fr (fun k => k = fb ∨ k = ub) w w') : Fr (fun k => k = fb ∨ k = ub ∨ k = rb) w w' :=
  h.mono (fun k _ hk => by rcases hk with h | h <;> simp [h])

theorem JoinPost.drew {fb ub rb uc rc : Nat} {up : List Nat} {steps : Nat} {R : Nat → Nat} {a b : Nat} {w : World} {e : Ending} {w' : World} (h : JoinPost fb ub rb uc rc up steps R a b w e w') : JoinPost fb ub rb uc rc up steps R a b w e w'.drew := by
  obtain ⟨x, y, up', rk', s, st, h1, h2, h3, h4, h5, h6, h7, h8, h9⟩ := h
  exact ⟨x, y, up', rk', s, st, h1, h2, h3.drew, h4, h5, h6, h7, h8.trans (Fr.drew _ _), h9⟩
/-- what the three ways write -/
theorem join_end {fb ub rb uc rc : Nat} {up rk up2 : List Nat} {sets steps st2 : Nat} {R : Nat → Nat} {a b x y : Nat} {w w3 : World} {rk' : List Nat}
    (hw : Wood up rk R sets) (ha : a < up.length) (hb : b < up.length) (hpair : (x = R a ∧ y = R b) ∨ (x = R b ∧ y = R a)) (hne : R a ≠ R b) (hk : rk.getD y 0 ≤ rk.getD x 0)
    (h3 : FAt w3 fb ub rb uc rc up2 rk' sets st2) (hrk : rk' = if rk.getD x 0 = rk.getD y 0 then rk.set x (rk.getD x 0 + 1) else rk)
    (hr2 : Rooted up2 R (fun x => rk.getD x 0) (Nat.log2 up.length)) (hl2 : up2.length = up.length) (hs1 : steps ≤ st2) (hs2 : st2 ≤ steps + 4 * Nat.log2 up.length + 4)
    (hf : Fr (fun k => k = fb ∨ k = ub ∨ k = rb) w w3) (hz : w3.heap.size = w.heap.size) :
    JoinPost fb ub rb uc rc up steps R a b w (.returned (.tuple #[.int .i64 (x : Nat), .bool true])) ((w3.setCell ⟨ub, y, none⟩ (.int .i64 (x : Nat))).setCell ⟨fb, 2, none⟩ (.int .i64 ((sets - 1 : Nat) : Int))) := by
  have hw2 := hw.of_rooted hl2 hr2
  have hxy : x < up2.length ∧ y < up2.length ∧ R x = x ∧ R y = y ∧ x ≠ y := by
    have r1 := hw.rooted.rootLt ha
    have r2 := hw.rooted.rootLt hb
    have r3 := hw.rooted.rootFix ha
    have r4 := hw.rooted.rootFix hb
    rcases hpair with ⟨rfl, rfl⟩ | ⟨rfl, rfl⟩
    · exact ⟨by omega, by omega, r3, r4, hne⟩
    · exact ⟨by omega, by omega, r4, r3, Ne.symm hne⟩
  have hj := hw2.join hxy.1 hxy.2.1 hxy.2.2.1 hxy.2.2.2.1 hxy.2.2.2.2 hk
  rw [← hrk] at hj
  refine ⟨x, y, up2.set y x, rk', sets - 1, st2, hpair, ?_, (h3.setUp y x).setSets (sets - 1), hj, by simpa using hl2, hs1, hs2, ?_, ?_⟩
  · have : (R a == R b) = false := by simpa using hne
    rw [this]; rfl
  · exact (hf.trans (Fr.setCell _ w3 ⟨ub, y, none⟩ _ (Or.inr (Or.inl rfl)))).trans (Fr.setCell _ _ ⟨fb, 2, none⟩ _ (Or.inl rfl))
  · simpa [World.setCell] using hz

set_option maxHeartbeats 1000000 in
theorem join_any (fb ub rb uc rc : Nat) (up rk : List Nat) (sets steps : Nat) (R : Nat → Nat) (a b : Nat) (w : World)
    (h : FAt w fb ub rb uc rc up rk sets steps) (hw : Wood up rk R sets) (ha : a < up.length) (hb : b < up.length) (hs : steps + 4 * Nat.log2 up.length + 4 ≤ 4611686018427387904) :
    Calls Try.prog 10 #[.pointer (some ⟨fb, 0, none⟩), .int .i64 a, .int .i64 b] w (JoinPost fb ub rb uc rc up steps R a b w) := by
  have H := Lib.hid h
  have HW := Lib.hid hw
  have hr := hw.rooted
  clear h hw
  have c0 := H.out.c0
  have hbig := H.out.big
  go_enter Try.func10, Try.ntmps10
  go_wp2_with fail
  refine (there_yes fb up.length uc _ a _ c0 ha hbig).mono ?_; rintro e w1 ⟨rfl, rfl⟩
  go_wp2_with fail
  refine (there_yes fb up.length uc _ b _ c0 hb hbig).mono ?_; rintro e w1 ⟨rfl, rfl⟩
  go_wp2_with fail
  refine (find_any fb ub rb uc rc up rk sets steps R _ _ a _ H.out hr ha (by omega)).mono ?_; rintro e w1 ⟨rfl, up1, st1, h1, hr1, hl1, hs1, ht1, hf1, hz1⟩
  have H1 := Lib.hid h1
  have HL1 := Lib.hid hl1
  have HZ1 := Lib.hid hz1
  have hb1 : b < up1.length := by omega
  clear h1 hl1 hz1
  go_wp2_with fail
  refine (find_any fb ub rb uc rc up1 rk sets st1 R _ _ b _ H1.out hr1 hb1 (by omega)).mono ?_; rintro e w2 ⟨rfl, up2, st2, h2, hr2, hl2, hs2, ht2, hf2, hz2⟩
  have HL2 : Hid (up2.length = up.length) := by have := HL1.out; show _ = _; omega
  have HZ2 : Hid (w2.heap.size = w.heap.size) := by have := HZ1.out; show _ = _; omega
  have HF2 := Lib.hid (Fr.widen (rb := rb) (hf1.trans hf2))
  have la := hr.rootLt ha
  have lb := hr.rootLt hb
  have fx := HW.out.len
  have e0 := h2.c0
  have e1 := h2.c1
  have e2 := h2.c2
  have z2 := h2.z 2
  have ca := h2.cr (R a) (by omega)
  have cb := h2.cr (R b) (by omega)
  have za := h2.zr (R a)
  have zb := h2.zr (R b)
  have ua := h2.zu (R a)
  have ub' := h2.zu (R b)
  have d1 := h2.d1
  have d2 := h2.d2
  have d3 := h2.d3
  have d1' := h2.d1.symm
  have d2' := h2.d2.symm
  have d3' := h2.d3.symm
  have hl2' := HL2.out
  have lra : R a < rk.length := by omega
  have lrb : R b < rk.length := by omega
  have l2a : R a < up2.length := by omega
  have l2b : R b < up2.length := by omega
  obtain ⟨va, va0⟩ : ∃ v, w2.cell? ⟨ub, R a, none⟩ = some v := ⟨_, h2.cu (R a) l2a⟩
  obtain ⟨vb, vb0⟩ : ∃ v, w2.cell? ⟨ub, R b, none⟩ = some v := ⟨_, h2.cu (R b) l2b⟩
  have rbig : rk.length ≤ 1048576 := by omega
  have ubig : up2.length ≤ 1048576 := by omega
  have hsets : 1 ≤ sets := by
    have h1 := HW.out.sets
    have h2 := filter_one up.length (R a) la
    have h3 := hr.rootFix ha
    rw [h1, ← h2]
    unfold roots
    refine filter_len_mono _ ?_
    intro x _ hx
    simp at hx
    subst hx
    simpa using h3
  have hsb : sets ≤ 1048576 := by
    rw [HW.out.sets]; exact Nat.le_trans (Nat.le_trans (List.length_filter_le _ _) (by simp)) hbig
  have krk := HW.out.rooted.top (R a) la
  have kb2 : rk.getD (R a) 0 < 1048576 := by
    have : Nat.log2 up.length < 1048576 := by
      have h0 : up.length ≠ 0 := by omega
      have := Nat.log2_lt h0 (k := 21)
      have := this.2 (by omega)
      omega
    omega
  have kb3 : rk.getD (R b) 0 < 1048576 := by
    have krk := HW.out.rooted.top (R b) lb
    have : Nat.log2 up.length < 1048576 := by
      have h0 : up.length ≠ 0 := by omega
      have := Nat.log2_lt h0 (k := 21)
      have := this.2 (by omega)
      omega
    omega
  have H2 := Lib.hid h2
  have HR2 := Lib.hid hr2
  clear h2 hl2' hl2 hz2 fx krk hr1 hr2 hf1 hf2 c0 hr
  generalize hpa : rk.getD (R a) 0 = pa at *
  generalize hpb : rk.getD (R b) 0 = pb at *
  have Hpa := Lib.hid hpa
  have Hpb := Lib.hid hpb
  clear hpa hpb
  generalize hqa : R a = ra at *
  generalize hqb : R b = rb' at *
  have Hqa := Lib.hid hqa
  have Hqb := Lib.hid hqb
  clear hqa hqb
  by_cases hab : ra = rb'
  · have b1 := beq_cast _ _ hab
    have Hab := Lib.hid hab
    clear hab
    go_wp2
    go_ret2
    have hj : joined R ra ra = R := joined_self R ra
    refine ⟨ra, ra, up2, rk, sets, st2, ?_, ?_, H2.out, ?_, HL2.out, by omega, by omega, HF2.out, HZ2.out⟩
    · rw [Hqa.out, Hqb.out]; exact .inl ⟨rfl, Hab.out⟩
    · rw [Hqa.out, Hqb.out, Hab.out]; simp
    · rw [hj]; exact HW.out.of_rooted HL2.out HR2.out
  · have b1 := beq_cast_ne _ _ hab
    have Hab := Lib.hid hab
    clear hab
    by_cases hlt : pa < pb
    · have hne : pb ≠ pa := by omega
      have b2 := beq_cast_ne _ _ hne
      clear hne
      go_wp2
      go_region
      all_goals
        go_wp2
        go_region
      all_goals
        go_wp2
        go_ret2
        have hpa := Hpa.out
        have hpb := Hpb.out
        have hna : R a ≠ R b := by rw [Hqa.out, Hqb.out]; exact Hab.out
        have hss : ((sets - 1 : Nat) : Int) = (sets : Int) - 1 := by omega
        have J := join_end (steps := steps) (w := w) (x := rb') (y := ra) (rk' := rk) HW.out ha hb (.inr ⟨Hqb.out.symm, Hqa.out.symm⟩) hna (by omega) H2.out (by rw [if_neg (by omega)]) HR2.out HL2.out (by omega) (by omega) HF2.out HZ2.out
        rw [hss] at J
        exact J.drew.drew
    · by_cases heq : pa = pb
      · have b2 := beq_cast _ _ heq
        have Heq := Lib.hid heq
        clear heq
        go_wp2
        go_region
        all_goals
          go_wp2
          go_region
        all_goals
          go_wp2
          go_ret2
          have hpa := Hpa.out
          have hpb := Hpb.out
          have heq := Heq.out
          have hna : R a ≠ R b := by rw [Hqa.out, Hqb.out]; exact Hab.out
          have hss : ((sets - 1 : Nat) : Int) = (sets : Int) - 1 := by omega
          have J := join_end (steps := steps) (w := w) (x := ra) (y := rb') (rk' := rk.set ra (pa + 1)) HW.out ha hb (.inl ⟨Hqa.out.symm, Hqb.out.symm⟩) hna (by omega) (H2.out.setRk ra (pa + 1)) (by rw [if_pos (by omega), hpa]) HR2.out HL2.out (by omega) (by omega) (HF2.out.trans (Fr.setCell _ w2 ⟨rb, ra, none⟩ _ (Or.inr (Or.inr rfl)))) (by simpa [World.setCell] using HZ2.out)
          rw [hss] at J
          exact J.drew.drew
      · have b2 := beq_cast_ne _ _ heq
        have hgt : pb < pa := by omega
        go_wp2
        go_region
        all_goals
          go_wp2
          go_region
        all_goals
          go_wp2
          go_ret2
          have hpa := Hpa.out
          have hpb := Hpb.out
          have hna : R a ≠ R b := by rw [Hqa.out, Hqb.out]; exact Hab.out
          have hss : ((sets - 1 : Nat) : Int) = (sets : Int) - 1 := by omega
          have J := join_end (steps := steps) (w := w) (x := ra) (y := rb') (rk' := rk) HW.out ha hb (.inl ⟨Hqa.out.symm, Hqb.out.symm⟩) hna (by omega) H2.out (by rw [if_neg (by omega)]) HR2.out HL2.out (by omega) (by omega) HF2.out HZ2.out
          rw [hss] at J
          exact J.drew.drew
end Go.Proofs.Ytibemcofkgbjhaa
