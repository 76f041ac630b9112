/-
  The forest's contracts, said of n, the roots R and the number of sets alone; the document's example. Conditions: the forest lies in memory (FS), steps stay small.
-/
import Derived.Test.YtibemcofkgbjhaaNew
namespace Go.Proofs.Ytibemcofkgbjhaa
open Go.RowKit

/-- a forest of n elements, at least one, with the roots R, in memory -/
def FS (w : World) (fb ub rb n : Nat) (R : Nat → Nat) (sets steps : Nat) : Prop :=
  ∃ up rk uc rc, up.length = n ∧ FAt w fb ub rb uc rc up rk sets steps ∧ Wood up rk R sets
def FSJoin (fb ub rb n : Nat) (R : Nat → Nat) (steps a b : Nat) (w : World) (e : Ending) (w' : World) : Prop :=
  ∃ root oth sets' st, ((root = R a ∧ oth = R b) ∨ (root = R b ∧ oth = R a)) ∧ e = .returned (.tuple #[.int .i64 (root : Nat), .bool (!(R a == R b))]) ∧
    FS w' fb ub rb n (joined R root oth) sets' st ∧ steps ≤ st ∧ st ≤ steps + 4 * Nat.log2 n + 4 ∧ Fr (fun k => k = fb ∨ k = ub ∨ k = rb) w w' ∧ w'.heap.size = w.heap.size
def FSSame (fb ub rb n : Nat) (R : Nat → Nat) (sets steps : Nat) (w w' : World) : Prop :=
  ∃ st, FS w' fb ub rb n R sets st ∧ steps ≤ st ∧ st ≤ steps + 4 * Nat.log2 n + 4 ∧ Fr (fun k => k = fb ∨ k = ub ∨ k = rb) w w' ∧ w'.heap.size = w.heap.size

theorem FS.n_le {w : World} {fb ub rb n : Nat} {R : Nat → Nat} {sets steps : Nat} (h : FS w fb ub rb n R sets steps) : n ≤ 1048576 := by
  obtain ⟨up, rk, uc, rc, hl, hf, _⟩ := h
  have := hf.big; omega
theorem FS.sets {w : World} {fb ub rb n : Nat} {R : Nat → Nat} {sets steps : Nat} (h : FS w fb ub rb n R sets steps) : sets = roots R n := by
  obtain ⟨up, rk, uc, rc, rfl, _, hw⟩ := h
  exact hw.sets
theorem FS.lt {w : World} {fb ub rb n : Nat} {R : Nat → Nat} {sets steps : Nat} (h : FS w fb ub rb n R sets steps) {x : Nat} (hx : x < n) : R x < n := by
  obtain ⟨up, rk, uc, rc, rfl, _, hw⟩ := h
  exact hw.rooted.rootLt hx
theorem FS.fix {w : World} {fb ub rb n : Nat} {R : Nat → Nat} {sets steps : Nat} (h : FS w fb ub rb n R sets steps) {x : Nat} (hx : x < n) : R (R x) = R x := by
  obtain ⟨up, rk, uc, rc, rfl, _, hw⟩ := h
  exact hw.rooted.rootFix hx
theorem FS.keep {w w' : World} {fb ub rb n : Nat} {R : Nat → Nat} {sets steps : Nat} (h : FS w fb ub rb n R sets steps) (h1 : w'.heap[fb]? = w.heap[fb]?) (h2 : w'.heap[ub]? = w.heap[ub]?) (h3 : w'.heap[rb]? = w.heap[rb]?) : FS w' fb ub rb n R sets steps := by
  obtain ⟨up, rk, uc, rc, hl, hf, hw⟩ := h
  exact ⟨up, rk, uc, rc, hl, hf.keep h1 h2 h3, hw⟩
theorem FS.lts {w : World} {fb ub rb n : Nat} {R : Nat → Nat} {sets steps : Nat} (h : FS w fb ub rb n R sets steps) : fb < w.heap.size ∧ ub < w.heap.size ∧ rb < w.heap.size := by
  obtain ⟨up, rk, uc, rc, hl, hf, hw⟩ := h
  exact ⟨(Array.getElem?_eq_some_iff.1 hf.blk).1, (hf.ups.lt ub rfl).2, (hf.rks.lt rb rfl).2⟩
theorem FS.fr {S : Nat → Prop} {w w' : World} {fb ub rb n : Nat} {R : Nat → Nat} {sets steps : Nat} (h : FS w fb ub rb n R sets steps) (hf : Fr S w w') (h1 : ¬ S fb) (h2 : ¬ S ub) (h3 : ¬ S rb) : FS w' fb ub rb n R sets steps :=
  h.keep (hf.block _ h.lts.1 h1) (hf.block _ h.lts.2.1 h2) (hf.block _ h.lts.2.2 h3)
theorem FS.drew {w : World} {fb ub rb n : Nat} {R : Nat → Nat} {sets steps : Nat} (h : FS w fb ub rb n R sets steps) : FS w.drew fb ub rb n R sets steps := h.keep rfl rfl rfl
theorem FS.c0 {w : World} {fb ub rb n : Nat} {R : Nat → Nat} {sets steps : Nat} (h : FS w fb ub rb n R sets steps) : ∃ uc, w.cell? ⟨fb, 0, none⟩ = some (.slice (some ⟨ub, 0, none⟩) n uc) := by
  obtain ⟨up, rk, uc, rc, rfl, hf, hw⟩ := h
  exact ⟨uc, hf.c0⟩
theorem FS.c2 {w : World} {fb ub rb n : Nat} {R : Nat → Nat} {sets steps : Nat} (h : FS w fb ub rb n R sets steps) : w.cell? ⟨fb, 2, none⟩ = some (.int .i64 sets) := by
  obtain ⟨up, rk, uc, rc, rfl, hf, hw⟩ := h
  exact hf.c2
theorem FS.c3 {w : World} {fb ub rb n : Nat} {R : Nat → Nat} {sets steps : Nat} (h : FS w fb ub rb n R sets steps) : w.cell? ⟨fb, 3, none⟩ = some (.int .i64 steps) := by
  obtain ⟨up, rk, uc, rc, rfl, hf, hw⟩ := h
  exact hf.c3

theorem join_fs (fb ub rb n : Nat) (R : Nat → Nat) (sets steps a b : Nat) (w : World) (h : FS w fb ub rb n R sets steps) (ha : a < n) (hb : b < n) (hs : steps + 4 * Nat.log2 n + 4 ≤ 4611686018427387904) :
    Calls Try.prog 10 #[.pointer (some ⟨fb, 0, none⟩), .int .i64 a, .int .i64 b] w (FSJoin fb ub rb n R steps a b w) := by
  obtain ⟨up, rk, uc, rc, rfl, hf, hw⟩ := h
  refine (join_any fb ub rb uc rc up rk sets steps R a b w hf hw ha hb hs).mono ?_
  rintro e w' ⟨x, y, up', rk', s, st, h1, h2, h3, h4, h5, h6, h7, h8, h9⟩
  exact ⟨x, y, s, st, h1, h2, ⟨up', rk', uc, rc, h5, h3, h4⟩, h6, h7, h8, h9⟩
theorem same_fs (fb ub rb n : Nat) (R : Nat → Nat) (sets steps a b : Nat) (w : World) (h : FS w fb ub rb n R sets steps) (ha : a < n) (hb : b < n) (hs : steps + 4 * Nat.log2 n + 4 ≤ 4611686018427387904) :
    Calls Try.prog 11 #[.pointer (some ⟨fb, 0, none⟩), .int .i64 a, .int .i64 b] w fun e w' => e = .returned (.bool (R a == R b)) ∧ FSSame fb ub rb n R sets steps w w' := by
  obtain ⟨up, rk, uc, rc, rfl, hf, hw⟩ := h
  refine (same_any fb ub rb uc rc up rk sets steps R _ _ a b w hf hw.rooted ha hb (by omega)).mono ?_
  rintro e w' ⟨h1, up', st, h3, h4, h5, h6, h7, h8, h9⟩
  exact ⟨h1, st, ⟨up', rk, uc, rc, h5, h3, hw.of_rooted h5 h4⟩, h6, by omega, h8.widen, h9⟩
def FSNew (n : Nat) (w w' : World) : Prop :=
  ∃ ub rb, FS w' w.heap.size ub rb n (fun x => x) n 0 ∧ Fr (fun _ => False) w w' ∧ w.heap.size < ub ∧ w.heap.size < rb
theorem new_fs (n : Nat) (w : World) (h : n ≤ 1048576) (h0 : 0 < n) :
    Calls Try.prog 9 #[.int .i64 n] w fun e w' => e = .returned (.tuple #[.pointer (some ⟨w.heap.size, 0, none⟩), .int .i64 0]) ∧ FSNew n w w' := by
  refine (new_any n w h).mono ?_
  rintro e w' ⟨h1, uv, rv, hF, hfr, hu, hr⟩
  obtain ⟨ub, rb, uc, rc, rfl, rfl, hA⟩ := hF.toFAt (by simpa using h0)
  exact ⟨h1, ub, rb, ⟨_, _, uc, rc, by simp, hA, wood_new n⟩, hfr, hu _ rfl, hr _ rfl⟩

def Quiet0 (w w' : World) : Prop := Fr (fun _ => False) w w'
set_option maxHeartbeats 1000000 in
theorem awake_any (w : World) : Calls Try.prog 8 #[] w fun e w' => e = .returned (.bool true) ∧ Quiet0 w w' := by
  go_enter Try.func8, Try.ntmps8
  go_wp2_with fail
  refine (new_fs 3 w (by omega) (by omega)).mono ?_; rintro e w1 ⟨rfl, ub, rb, hF, hfr, hu, hr⟩
  have hs1 := hfr.size
  have HF := Lib.hid hF
  clear hF
  go_wp2_with fail
  refine (join_fs w.heap.size ub rb 3 (fun x => x) 3 0 0 2 _ HF.out (by omega) (by omega) (by decide)).mono ?_
  rintro e w2 ⟨x, y, s, st, hp, rfl, hF2, hst, hst', hfr2, hz2⟩
  have hl3 : Nat.log2 3 = 1 := by decide
  have hR : ∀ i, i < 3 → (joined (fun x => x) x y i == joined (fun x => x) x y 0) = (i == 0 || i == 2) := by
    intro i hi
    unfold joined
    rcases hp with ⟨rfl, rfl⟩ | ⟨rfl, rfl⟩ <;> (match i, hi with | 0, _ => rfl | 1, _ => rfl | 2, _ => rfl)
  have hsets := hF2.sets
  have hs2 : s = 2 := by
    rw [hsets]; unfold joined; rcases hp with ⟨rfl, rfl⟩ | ⟨rfl, rfl⟩ <;> rfl
  subst hs2
  have H20 : Hid ((joined (fun x => x) x y 2 == joined (fun x => x) x y 0) = true) := hR 2 (by omega)
  have H01 : Hid ((joined (fun x => x) x y 0 == joined (fun x => x) x y 1) = false) := by
    have h1 : (joined (fun x => x) x y 1 == joined (fun x => x) x y 0) = false := hR 1 (by omega)
    exact beq_eq_false_iff_ne.2 (Ne.symm (beq_eq_false_iff_ne.1 h1))
  have HF2 := Lib.hid hF2
  have HP := Lib.hid hp
  generalize joined (fun x => x) x y = R at *
  clear hF2 hp hR hsets
  go_wp2_with fail
  refine (same_fs w.heap.size ub rb 3 R 2 st 2 0 _ HF2.out (by omega) (by omega) (by omega)).mono ?_
  rintro e w3 ⟨rfl, st3, hF3, hst3, hst3', hfr3, hz3⟩
  rw [H20.out]
  have HF3 := Lib.hid hF3
  clear hF3
  go_wp2_with fail
  refine (same_fs w.heap.size ub rb 3 R 2 st3 0 1 _ HF3.out (by omega) (by omega) (by omega)).mono ?_
  rintro e w4 ⟨rfl, st4, hF4, hst4, hst4', hfr4, hz4⟩
  rw [H01.out]
  have HF4 := Lib.hid hF4
  clear hF4
  go_wp2_with fail
  refine (sets_any w.heap.size 2 _ HF4.out.c2).mono ?_; rintro e w5 ⟨rfl, rfl⟩
  have HQ : Hid (Quiet0 w w4) := by
    have hno : ∀ i, i < w.heap.size → (i = w.heap.size ∨ i = ub ∨ i = rb) → False := by intro i h1 h2; omega
    exact (((hfr.trans' hfr2 hno).trans' hfr3 hno).trans' hfr4 hno)
  go_wp2
  go_ret
  exact ⟨rfl, HQ.out⟩
end Go.Proofs.Ytibemcofkgbjhaa
