/-
  find: the root of an element that is there; all on the way come to stand below it. Conditions: the forest lies in memory as told (FAt), its parents lead to the roots R (Rooted), steps stay small.
-/
import Derived.Test.YtibemcofkgbjhaaRows
import Derived.Test.YtibemcofkgbjhaaForest
namespace Go.Proofs.Ytibemcofkgbjhaa
open Go.RowKit

def FindPost (fb ub rb uc rc : Nat) (up rk : List Nat) (sets steps : Nat) (R K : Nat → Nat) (M : Nat) (w w' : World) : Prop :=
  ∃ up' st, FAt w' fb ub rb uc rc up' rk sets st ∧ Rooted up' R K M ∧ up'.length = up.length ∧ steps ≤ st ∧ st ≤ steps + 2 * M + 2 ∧ Fr (fun k => k = fb ∨ k = ub) w w' ∧ w'.heap.size = w.heap.size

theorem beq_cast (a b : Nat) (h : a = b) : ((a : Int) == (b : Int)) = true := by simp [h]
theorem beq_cast_ne (a b : Nat) (h : a ≠ b) : ((a : Int) == (b : Int)) = false := by simp; omega
theorem bne_cast_ne (a b : Nat) (h : a ≠ b) : ((a : Int) != (b : Int)) = true := by simp; omega
theorem bne_cast (a b : Nat) (h : a = b) : ((a : Int) != (b : Int)) = false := by simp [h]

set_option maxHeartbeats 1000000 in
theorem find_any (fb ub rb uc rc : Nat) (up rk : List Nat) (sets steps : Nat) (R K : Nat → Nat) (M : Nat) (i : Nat) (w : World)
    (h : FAt w fb ub rb uc rc up rk sets steps) (hr : Rooted up R K M) (hi : i < up.length) (hs : steps + 2 * M + 2 ≤ 4611686018427387904) :
    Calls Try.prog 28 #[.pointer (some ⟨fb, 0, none⟩), .int .i64 i] w fun e w' => e = .returned (.int .i64 (R i)) ∧ FindPost fb ub rb uc rc up rk sets steps R K M w w' := by
  go_enter Try.func28, Try.ntmps28
  go_wp2
  go_step3
  go_wp2
  go_step3
  go_wp2
  go_loopw [5, 6] (fun t _ wr => ∃ r st : Nat, t = .int .i64 r ∧ r < up.length ∧ R r = R i ∧ st ≤ steps + K r ∧ FAt wr fb ub rb uc rc up rk sets st ∧ steps ≤ st ∧ Fr (fun k => k = fb ∨ k = ub) w wr ∧ wr.heap.size = w.heap.size) (fun t _ _ => M - K (intOf t).toNat)
  case atStart => exact ⟨i, steps, rfl, hi, rfl, by omega, h, Nat.le_refl _, Fr.refl _ _, rfl⟩
  case round =>
    obtain ⟨r, st, rfl, hrl, hR, hst, hF, hle, hfr, hsz⟩ := hrel
    have c0 := hF.c0
    have c3 := hF.c3
    have z3 := hF.z 3
    have cu := hF.cu r hrl
    have kt := hr.top r hrl
    have hlen := hF.big
    have e1 := hF.d1
    have e2 := hF.d1.symm
    have hlt := hr.lt r hrl
    have hfix := Lib.hid (hr.fix r hrl)
    have hsame := Lib.hid (hr.same r hrl)
    have hrise := Lib.hid (hr.rise r hrl)
    have hF' := Lib.hid (hF.setSteps (st + 1))
    have hfr' := hfr.trans (Fr.setCell _ wr ⟨fb, 3, none⟩ (.int .i64 (st + 1 : Nat)) (Or.inl rfl))
    have Hsz := Lib.hid hsz
    clear hsz
    have HR := Lib.hid hR
    clear hR
    generalize hp : up.getD r 0 = p at *
    have Hp := Lib.hid hp
    clear hp h
    clear hF
    by_cases hx : p = r
    · have b1 := beq_cast _ _ hx
      have Hx := Lib.hid hx
      clear hx
      go_wp2
      have hRr := Lib.hid ((hfix.out).1 Hx.out)
      go_loopw [1] (fun t wr => ∃ x st2 up2, t = .int .i64 (x : Nat) ∧ x < up.length ∧ R x = r ∧ FAt wr fb ub rb uc rc up2 rk sets st2 ∧ Rooted up2 R K M ∧ up2.length = up.length ∧ st2 ≤ steps + M + 1 + K x ∧ steps ≤ st2 ∧ Fr (fun k => k = fb ∨ k = ub) w wr ∧ wr.heap.size = w.heap.size) (fun t _ => M - K (intOf t).toNat)
      case atStart => exact ⟨i, st + 1, up, rfl, hi, by rw [← HR.out, hRr.out], hF'.out, hr, rfl, by omega, by omega, hfr', by simpa [World.setCell] using Hsz.out⟩
      case round =>
        obtain ⟨x, st2, up2, rfl, hxl, hRx, hG, hr2, hl2, hst2, hle2, hfr2, hsz2⟩ := hrel
        have hxl2 : x < up2.length := by omega
        have c0 := hG.c0
        have c3 := hG.c3
        have z3 := hG.z 3
        have cu := hG.cu x hxl2
        have zu := hG.zu x
        have e1 := hG.d1
        have e2 := hG.d1.symm
        have hlt2 := hr2.lt x hxl2
        have hG1 := Lib.hid (hG.setSteps (st2 + 1))
        have hGk := Lib.hid hG
        have hfr1 := hfr2.trans (Fr.setCell _ wr ⟨fb, 3, none⟩ (.int .i64 (st2 + 1 : Nat)) (Or.inl rfl))
        have hrise2 := Lib.hid (hr2.rise x hxl2)
        have hfix2 := Lib.hid (hr2.fix x hxl2)
        have hsame2 := Lib.hid (hr2.same x hxl2)
        have hpress := Lib.hid (fun hh => hr2.press (x := x) hxl2 hh)
        have hpos := hr2.top x hxl2
        have hL := hl2 ▸ hlen
        generalize hq : up2.getD x 0 = q at *
        have Hq := Lib.hid hq
        have Hsz2 := Lib.hid hsz2
        have HRx := Lib.hid hRx
        have Hl2 := Lib.hid hl2
        clear hq hsz2 hRx hl2 hG
        by_cases hy : q = r
        · have b2 := bne_cast _ _ hy
          clear hy
          go_wp2
          rw [Exit.noGoto_ret]
          go_ret
          have hri : R i = r := by rw [← HR.out, hRr.out]
          exact ⟨by rw [hri]; rfl, up2, st2, hGk.out, hr2, Hl2.out, hle2, by omega, hfr2, Hsz2.out⟩
        · have b2 := bne_cast_ne _ _ hy
          go_wp2
          go_region
          all_goals
            go_wp2
            go_roundw
            case rel =>
              have hpr := hpress.out (by rw [HRx.out]; exact hy)
              rw [HRx.out] at hpr
              have hqx : q ≠ x := fun e => hy (by rw [← HRx.out]; rw [((hfix2.out).1 e), e])
              have hK := hrise2.out hqx
              have hl := Hl2.out
              refine ⟨q, st2 + 1, up2.set x r, rfl, by omega, by rw [hsame2.out]; exact HRx.out, ?_, hpr, by simpa using Hl2.out, by omega, by omega, ?_, ?_⟩
              · exact ((hG1.out).setUp x r).drew
              · exact (hfr1.trans (Fr.setCell _ _ ⟨ub, x, none⟩ (.int .i64 r) (Or.inr rfl))).trans (Fr.drew _ _)
              · simpa [World.setCell] using Hsz2.out
            case measure =>
              have hqx : q ≠ x := fun e => hy (by rw [← HRx.out]; rw [((hfix2.out).1 e), e])
              have hK := hrise2.out hqx
              have hKq := hr2.top q hlt2
              simp [intOf]; omega
    · have b1 := beq_cast_ne _ _ hx
      go_wp2
      go_roundw
      case rel => exact ⟨p, st + 1, rfl, hlt, by rw [hsame.out]; exact HR.out, by have := hrise.out hx; omega, hF'.out, by omega, hfr', by simpa [World.setCell] using Hsz.out⟩
      case measure => have := hrise.out hx; have := hr.top p hlt; simp [intOf]; omega
end Go.Proofs.Ytibemcofkgbjhaa
