/-
  A forest that may be empty: its contracts for any integers. Conditions: the forest lies in memory (FG), steps stay small.
-/
import Derived.Test.YtibemcofkgbjhaaCopies
namespace Go.Proofs.Ytibemcofkgbjhaa
open Go.RowKit

def addR (R : Nat → Nat) (n : Nat) : Nat → Nat := fun x => if x < n then R x else x
theorem addR_lt {R : Nat → Nat} {n x : Nat} (h : x < n) : addR R n x = R x := by unfold addR; rw [if_pos h]
theorem addR_n (R : Nat → Nat) (n : Nat) : addR R n n = n := by unfold addR; rw [if_neg (by omega)]
theorem getD_snoc (l : List Nat) (v x : Nat) : (l ++ [v]).getD x 0 = if x < l.length then l.getD x 0 else if x = l.length then v else 0 := by
  by_cases h : x < l.length
  · simp [List.getD, List.getElem?_append, h]
  · by_cases e : x = l.length
    · subst e; simp [List.getD]
    · simp [List.getD, List.getElem?_append, h, e]
      have : x - l.length ≠ 0 := by omega
      cases hx : x - l.length with
      | zero => omega
      | succ k => simp
theorem Wood.add {up rk : List Nat} {R : Nat → Nat} {s : Nat} (h : Wood up rk R s) : Wood (up ++ [up.length]) (rk ++ [0]) (addR R up.length) (s + 1) := by
  have hlen := h.len
  have hr := h.rooted
  generalize hn : up.length = n at *
  have gu : ∀ x, x < n → (up ++ [n]).getD x 0 = up.getD x 0 := by intro x hx; rw [getD_snoc, hn, if_pos hx]
  have gun : (up ++ [n]).getD n 0 = n := by rw [getD_snoc, hn]; simp
  have gk : ∀ x, x < n → (rk ++ [0]).getD x 0 = rk.getD x 0 := by intro x hx; rw [getD_snoc, hlen, if_pos hx]
  have gkn : (rk ++ [0]).getD n 0 = 0 := by rw [getD_snoc, hlen]; simp
  have hl1 : (up ++ [n]).length = n + 1 := by simp [hn]
  have lt : ∀ x, x < n → up.getD x 0 < n := fun x hx => by have := hr.lt x (by omega); omega
  have rl : ∀ x, x < n → R x < n := fun x hx => by have := hr.rootLt (x := x) (by omega); omega
  refine ⟨by simp [hn, hlen], ⟨?_, ?_, ?_, ?_, ?_⟩, ?_, ?_⟩
  · intro x hx; rw [hl1] at hx ⊢
    by_cases e : x < n
    · rw [gu x e]; have := lt x e; omega
    · obtain rfl : x = n := by omega
      rw [gun]; omega
  · intro x hx; rw [hl1] at hx
    by_cases e : x < n
    · rw [gu x e, addR_lt (lt x e), addR_lt e, hr.same x (by omega)]
    · obtain rfl : x = n := by omega
      rw [gun]
  · intro x hx; rw [hl1] at hx
    by_cases e : x < n
    · rw [gu x e, addR_lt e, hr.fix x (by omega)]
    · obtain rfl : x = n := by omega
      rw [gun, addR_n]
  · intro x hx hne; rw [hl1] at hx
    by_cases e : x < n
    · rw [gu x e] at hne ⊢
      simp only [gk x e, gk _ (lt x e)]
      exact hr.rise x (by omega) hne
    · obtain rfl : x = n := by omega
      exact absurd gun hne
  · intro x hx; rw [hl1] at hx ⊢
    by_cases e : x < n
    · have h1 := hr.top x (by omega)
      simp only [gk x e] at h1 ⊢
      have hx0 : 2 ^ Nat.log2 n ≤ n := Nat.log2_self_le (by omega)
      exact Nat.le_trans h1 (log_le (by omega))
    · obtain rfl : x = n := by omega
      simp only [gkn]; omega
  · intro r hr0 hfix; rw [hl1] at hr0 ⊢
    by_cases e : r < n
    · rw [gk r e]
      rw [addR_lt e] at hfix
      have h1 := h.sized r (by omega) hfix
      have h2 : cnt R n r ≤ cnt (addR R n) (n + 1) r := by
        unfold cnt
        rw [List.range_succ, List.filter_append, List.length_append]
        have : ((List.range n).filter (fun x => addR R n x == r)).length = ((List.range n).filter (fun x => R x == r)).length := filter_len_congr _ (fun x hx => by rw [addR_lt (by simpa using hx)])
        omega
      rw [hn] at h1
      omega
    · obtain rfl : r = n := by omega
      rw [gkn]
      unfold cnt
      rw [List.range_succ, List.filter_append, List.length_append]
      have : ([r].filter (fun x => addR R r x == r)).length = 1 := by simp [addR_n]
      rw [this]; simp
  · rw [hl1, h.sets, hn]
    unfold roots
    rw [List.range_succ, List.filter_append, List.length_append]
    have h1 : ((List.range n).filter (fun x => addR R n x == x)).length = ((List.range n).filter (fun x => R x == x)).length := filter_len_congr _ (fun x hx => by rw [addR_lt (by simpa using hx)])
    have h2 : ([n].filter (fun x => addR R n x == x)).length = 1 := by simp [addR_n]
    omega

/-- a forest of n elements, maybe none, with the roots R -/
def FG (w : World) (fb : Nat) (uv rv : Value) (n : Nat) (R : Nat → Nat) (sets steps : Nat) : Prop :=
  ∃ up rk, up.length = n ∧ FV w fb uv rv up rk sets steps ∧ Wood up rk R sets
/-- the blocks that are the forest's -/
def SG (fb : Nat) (uv rv : Value) : Nat → Prop := fun k => k = fb ∨ uv.ownBlock = some k ∨ rv.ownBlock = some k
section
variable {w w' : World} {fb : Nat} {uv rv : Value} {n : Nat} {R : Nat → Nat} {sets steps : Nat}
theorem FG.lts (h : FG w fb uv rv n R sets steps) : ∀ k, SG fb uv rv k → k < w.heap.size := by
  obtain ⟨up, rk, hl, hf, hw⟩ := h
  rintro k (rfl | hk | hk)
  · exact (Array.getElem?_eq_some_iff.1 hf.blk).1
  · exact (hf.ups.lt k hk).2
  · exact (hf.rks.lt k hk).2
theorem FG.fr {S : Nat → Prop} (h : FG w fb uv rv n R sets steps) (hf : Fr S w w') (hS : ∀ k, SG fb uv rv k → ¬ S k) : FG w' fb uv rv n R sets steps := by
  have hlt := h.lts
  obtain ⟨up, rk, hl, hF, hw⟩ := h
  exact ⟨up, rk, hl, ⟨by rw [hf.block fb (hlt fb (.inl rfl)) (hS fb (.inl rfl))]; exact hF.blk, ownsRow_fr hF.ups hf (fun k hk => hS k (.inr (.inl hk))), ownsRow_fr hF.rks hf (fun k hk => hS k (.inr (.inr hk))), hF.d1, hF.d2, hF.d3, hF.big, hF.rlen⟩, hw⟩
theorem FG.form (h : FG w fb uv rv n R sets steps) : ∃ o c, uv = .slice o n c ∧ w.cell? ⟨fb, 0, none⟩ = some (.slice o n c) ∧ n ≤ 1048576 := by
  obtain ⟨up, rk, rfl, hF, hw⟩ := h
  obtain ⟨o, c, rfl⟩ := ownsRow_len hF.ups
  exact ⟨o, c, rfl, by simp [World.cell?, hF.blk], hF.big⟩
theorem FG.c2 (h : FG w fb uv rv n R sets steps) : w.cell? ⟨fb, 2, none⟩ = some (.int .i64 sets) := by
  obtain ⟨up, rk, rfl, hF, hw⟩ := h; simp [World.cell?, hF.blk]
theorem FG.c3 (h : FG w fb uv rv n R sets steps) : w.cell? ⟨fb, 3, none⟩ = some (.int .i64 steps) := by
  obtain ⟨up, rk, rfl, hF, hw⟩ := h; simp [World.cell?, hF.blk]
theorem FG.num (h : FG w fb uv rv n R sets steps) : sets = roots R n := by
  obtain ⟨up, rk, rfl, hF, hw⟩ := h; exact hw.sets
theorem FG.root (h : FG w fb uv rv n R sets steps) {x : Nat} (hx : x < n) : R x < n ∧ R (R x) = R x := by
  obtain ⟨up, rk, rfl, hF, hw⟩ := h; exact ⟨hw.rooted.rootLt hx, hw.rooted.rootFix hx⟩
theorem FG.toFS (h : FG w fb uv rv n R sets steps) (hn : 0 < n) : ∃ ub rb, FS w fb ub rb n R sets steps ∧ ∀ k, (k = fb ∨ k = ub ∨ k = rb) ↔ SG fb uv rv k := by
  obtain ⟨up, rk, rfl, hF, hw⟩ := h
  obtain ⟨ub, rb, uc, rc, rfl, rfl, hA⟩ := hF.toFAt hn
  exact ⟨ub, rb, ⟨up, rk, uc, rc, rfl, hA, hw⟩, fun k => by unfold SG; simp [Value.ownBlock, eq_comm]⟩
theorem FS.toFG {ub rb : Nat} (h : FS w fb ub rb n R sets steps) : ∃ uv rv, FG w fb uv rv n R sets steps ∧ ∀ k, SG fb uv rv k ↔ (k = fb ∨ k = ub ∨ k = rb) := by
  obtain ⟨up, rk, uc, rc, rfl, hA, hw⟩ := h
  exact ⟨_, _, ⟨up, rk, rfl, hA.toFV hw.len, hw⟩, fun k => by unfold SG; simp [Value.ownBlock, eq_comm]⟩
end
def inN (n : Nat) (i : Int) : Bool := decide (0 ≤ i ∧ i < n)
theorem inN_yes {n : Nat} {i : Int} (h : inN n i = true) : ∃ k : Nat, i = k ∧ k < n := by
  unfold inN at h
  have := of_decide_eq_true h
  exact ⟨i.toNat, by omega, by omega⟩
theorem inN_no {n : Nat} {i : Int} (h : inN n i = false) : i < 0 ∨ (n : Int) ≤ i := by
  unfold inN at h
  have := of_decide_eq_false h
  omega

def GPost (fb : Nat) (uv rv : Value) (n : Nat) (R : Nat → Nat) (sets steps d : Nat) (w w' : World) : Prop :=
  ∃ uv' rv' st, FG w' fb uv' rv' n R sets st ∧ (∀ k, SG fb uv' rv' k → SG fb uv rv k) ∧ steps ≤ st ∧ st ≤ steps + d ∧ Fr (SG fb uv rv) w w'
theorem GPost.same {fb : Nat} {uv rv : Value} {n : Nat} {R : Nat → Nat} {sets steps d : Nat} {w : World} (h : FG w fb uv rv n R sets steps) : GPost fb uv rv n R sets steps d w w :=
  ⟨uv, rv, steps, h, fun _ h => h, Nat.le_refl _, by omega, Fr.refl _ _⟩
theorem GPost.of_fs {fb ub rb : Nat} {uv rv : Value} {n : Nat} {R : Nat → Nat} {sets steps st d : Nat} {w w' : World} (h : FS w' fb ub rb n R sets st) (hb : ∀ k, (k = fb ∨ k = ub ∨ k = rb) ↔ SG fb uv rv k)
    (h1 : steps ≤ st) (h2 : st ≤ steps + d) (hf : Fr (fun k => k = fb ∨ k = ub ∨ k = rb) w w') : GPost fb uv rv n R sets steps d w w' := by
  obtain ⟨uv', rv', hG, hS⟩ := h.toFG
  exact ⟨uv', rv', st, hG, fun k hk => (hb k).1 ((hS k).1 hk), h1, h2, hf.mono (fun k _ hk => (hb k).1 hk)⟩

section
variable (fb : Nat) (uv rv : Value) (n : Nat) (R : Nat → Nat) (sets steps : Nat) (w : World) (h : FG w fb uv rv n R sets steps)
include h
theorem join_out (a b : Int) (hno : inN n a = false ∨ inN n b = false) :
    Calls Try.prog 10 #[.pointer (some ⟨fb, 0, none⟩), .int .i64 a, .int .i64 b] w fun e w' => e = .returned (.tuple #[.int .i64 0, .bool false]) ∧ w = w' := by
  obtain ⟨o, c, _, c0, hn⟩ := h.form
  clear h
  cases ha : inN n a
  · have ha' := inN_no ha
    clear ha hno
    go_enter Try.func10, Try.ntmps10
    go_wp2_with fail
    refine (there_no fb n c o a _ c0 ha' hn).mono ?_; rintro e w1 ⟨rfl, rfl⟩
    go_wp2
    go_ret2
    exact ⟨rfl, rfl⟩
  · have hb' := inN_no (n := n) (i := b) (by simpa [ha] using hno)
    obtain ⟨k, rfl, hk⟩ := inN_yes ha
    clear ha hno
    go_enter Try.func10, Try.ntmps10
    go_wp2_with fail
    refine (there_yes fb n c o k _ c0 hk hn).mono ?_; rintro e w1 ⟨rfl, rfl⟩
    go_wp2_with fail
    refine (there_no fb n c o b _ c0 hb' hn).mono ?_; rintro e w1 ⟨rfl, rfl⟩
    go_wp2
    go_ret2
    exact ⟨rfl, rfl⟩
theorem same_g (a b : Int) (hs : steps + 4 * Nat.log2 n + 4 ≤ 4611686018427387904) :
    Calls Try.prog 11 #[.pointer (some ⟨fb, 0, none⟩), .int .i64 a, .int .i64 b] w fun e w' => e = .returned (.bool (inN n a && inN n b && (R a.toNat == R b.toNat))) ∧ GPost fb uv rv n R sets steps (4 * Nat.log2 n + 4) w w' := by
  have H := Lib.hid h
  obtain ⟨o, c, _, c0, hn⟩ := h.form
  clear h
  cases ha : inN n a
  · have ha' := inN_no ha
    clear ha hs
    go_enter Try.func11, Try.ntmps11
    go_wp2_with fail
    refine (there_no fb n c o a _ c0 ha' hn).mono ?_; rintro e w1 ⟨rfl, rfl⟩
    go_wp2
    go_ret
    exact ⟨rfl, GPost.same H.out⟩
  · obtain ⟨k, rfl, hk⟩ := inN_yes ha
    clear ha
    cases hb : inN n b
    · have hb' := inN_no hb
      clear hb hs
      go_enter Try.func11, Try.ntmps11
      go_wp2_with fail
      refine (there_yes fb n c o k _ c0 hk hn).mono ?_; rintro e w1 ⟨rfl, rfl⟩
      go_wp2_with fail
      refine (there_no fb n c o b _ c0 hb' hn).mono ?_; rintro e w1 ⟨rfl, rfl⟩
      go_wp2
      go_ret
      exact ⟨rfl, GPost.same H.out⟩
    · obtain ⟨j, rfl, hj⟩ := inN_yes hb
      obtain ⟨ub, rb, hF, hbl⟩ := H.out.toFS (by omega)
      refine (same_fs fb ub rb n R sets steps k j w hF hk hj hs).mono ?_
      rintro e w' ⟨rfl, st, h1, h2, h3, h4, h5⟩
      exact ⟨by simp, GPost.of_fs h1 hbl h2 (by omega) h4⟩
def JoinG (fb : Nat) (uv rv : Value) (n : Nat) (R : Nat → Nat) (steps a b : Nat) (w : World) (e : Ending) (w' : World) : Prop :=
  ∃ root oth sets', ((root = R a ∧ oth = R b) ∨ (root = R b ∧ oth = R a)) ∧ e = .returned (.tuple #[.int .i64 (root : Nat), .bool (!(R a == R b))]) ∧ GPost fb uv rv n (joined R root oth) sets' steps (4 * Nat.log2 n + 4) w w'
theorem join_in (a b : Nat) (ha : a < n) (hb : b < n) (hs : steps + 4 * Nat.log2 n + 4 ≤ 4611686018427387904) :
    Calls Try.prog 10 #[.pointer (some ⟨fb, 0, none⟩), .int .i64 a, .int .i64 b] w (JoinG fb uv rv n R steps a b w) := by
  obtain ⟨ub, rb, hF, hbl⟩ := h.toFS (by omega)
  refine (join_fs fb ub rb n R sets steps a b w hF ha hb hs).mono ?_
  rintro e w' ⟨x, y, s', st, hp, rfl, h1, h2, h3, h4, h5⟩
  exact ⟨x, y, s', hp, rfl, GPost.of_fs h1 hbl h2 (by omega) h4⟩
theorem root_out (a : Int) (hno : inN n a = false) :
    Calls Try.prog 23 #[.pointer (some ⟨fb, 0, none⟩), .int .i64 a] w fun e w' => e = .returned (.tuple #[.int .i64 0, .bool false]) ∧ w = w' := by
  obtain ⟨o, c, _, c0, hn⟩ := h.form
  have ha' := inN_no hno
  clear h hno
  go_enter Try.func23, Try.ntmps23
  go_wp2_with fail
  refine (there_no fb n c o a _ c0 ha' hn).mono ?_; rintro e w1 ⟨rfl, rfl⟩
  go_wp2
  go_ret2
  exact ⟨rfl, rfl⟩
theorem root_in (a : Nat) (ha : a < n) (hs : steps + 2 * Nat.log2 n + 2 ≤ 4611686018427387904) :
    Calls Try.prog 23 #[.pointer (some ⟨fb, 0, none⟩), .int .i64 a] w fun e w' => e = .returned (.tuple #[.int .i64 (R a : Nat), .bool true]) ∧ GPost fb uv rv n R sets steps (2 * Nat.log2 n + 2) w w' := by
  obtain ⟨o, c, _, c0, hn⟩ := h.form
  obtain ⟨ub, rb, hF, hbl⟩ := h.toFS (by omega)
  have HF := Lib.hid hF
  have HBL := Lib.hid hbl
  clear h hF hbl
  go_enter Try.func23, Try.ntmps23
  go_wp2_with fail
  refine (there_yes fb n c o a _ c0 ha hn).mono ?_; rintro e w1 ⟨rfl, rfl⟩
  go_wp2_with fail
  refine (find_fs fb ub rb n R sets steps a _ HF.out ha (by omega)).mono ?_
  rintro e w' ⟨rfl, st, h1, h2, h3, h4, h5⟩
  have HP := Lib.hid (GPost.of_fs h1 HBL.out h2 (d := 2 * Nat.log2 n + 2) (by omega) h4)
  clear h1 h4 h5
  go_wp2
  go_ret2
  exact ⟨rfl, HP.out⟩
def SetG (fb : Nat) (uv rv : Value) (n : Nat) (R : Nat → Nat) (sets steps : Nat) (a : Int) (w : World) (e : Ending) (w' : World) : Prop :=
  ∃ v, e = .returned v ∧ GPost fb uv rv n R sets steps ((n + 1) * (2 * Nat.log2 n + 2)) w w' ∧ IRow w' v ((List.range n).filter (fun k => inN n a && R a.toNat == R k)) ∧ ∀ b, v.ownBlock = some b → w.heap.size ≤ b
theorem set_g (a : Int) (hs : steps + (n + 1) * (2 * Nat.log2 n + 2) ≤ 4611686018427387904) (hn1 : n ≤ 100000) :
    Calls Try.prog 18 #[.pointer (some ⟨fb, 0, none⟩), .int .i64 a] w (SetG fb uv rv n R sets steps a w) := by
  cases ha : inN n a
  · obtain ⟨o, c, _, c0, hn⟩ := h.form
    have H := Lib.hid h
    have ha' := inN_no ha
    have HA := Lib.hid ha
    have c0' := ((Fr.alloc (fun _ => False) w (.cells #[.pointer (some ⟨fb, 0, none⟩)] 25)).cellb (b := fb) (off := 0) (World.block_lt_of_cell? w _ c0) (fun h => h)).trans c0
    clear h ha c0 hs
    go_enter Try.func18, Try.ntmps18
    go_wp2_with fail
    refine (there_no fb n c o a _ c0' ha' hn).mono ?_; rintro e w1 ⟨rfl, rfl⟩
    go_wp2
    go_ret
    refine ⟨_, rfl, ?_, ?_, by intro b hb; simp [Value.ownBlock] at hb⟩
    · exact ⟨uv, rv, steps, H.out.fr (Fr.alloc (fun _ => False) w _) (fun k _ h => h), fun _ h => h, Nat.le_refl _, by omega, Fr.alloc _ _ _⟩
    · rw [HA.out]; simp only [Bool.false_and]
      have : (List.range n).filter (fun _ => false) = [] := by simp
      rw [this]; exact IRow.none _
  · obtain ⟨k, rfl, hk⟩ := inN_yes ha
    obtain ⟨ub, rb, hF, hbl⟩ := h.toFS (by omega)
    refine (set_any fb ub rb n R sets steps k w hF hk hs hn1).mono ?_
    rintro e w' ⟨st, v, rfl, h1, h2, h3, h4, h5, h6⟩
    refine ⟨v, rfl, GPost.of_fs h1 hbl h2 h3 h6, ?_, h5⟩
    have e : (List.range n).filter (fun j => inN n (k : Int) && R (k : Int).toNat == R j) = (List.range n).filter (fun j => R j == R k) := by
      apply List.filter_congr
      intro j _
      rw [ha, Bool.true_and, Int.toNat_natCast, Bool.eq_iff_iff, beq_iff_eq, beq_iff_eq, eq_comm]
    rw [e]; exact h4
def AddG (fb : Nat) (uv rv : Value) (n : Nat) (R : Nat → Nat) (steps : Nat) (w w' : World) : Prop :=
  ∃ uv' rv' sets', FG w' fb uv' rv' (n + 1) (addR R n) sets' steps ∧ (∀ k, SG fb uv' rv' k → SG fb uv rv k ∨ w.heap.size ≤ k) ∧ Fr (SG fb uv rv) w w'
theorem add_g (hn : n < 1048576) :
    Calls Try.prog 16 #[.pointer (some ⟨fb, 0, none⟩)] w fun e w' => e = .returned (.int .i64 n) ∧ AddG fb uv rv n R steps w w' := by
  have hsets : sets ≤ 1048576 := by
    rw [h.num]; exact Nat.le_trans (Nat.le_trans (List.length_filter_le _ _) (by simp)) (Nat.le_of_lt hn)
  obtain ⟨up, rk, rfl, hF, hw⟩ := h
  refine (add_any fb uv rv up rk sets steps w hF hn hsets).mono ?_
  rintro e w' ⟨h1, uv', rv', ku, kr, hF', hfr, hku, hku', hkr, hkr'⟩
  refine ⟨h1, uv', rv', sets + 1, ⟨_, _, by simp, hF', hw.add⟩, ?_, hfr⟩
  rintro k (rfl | hk | hk)
  · exact .inl (.inl rfl)
  · rw [hku] at hk; cases hk
    rcases hku' with h | h
    · exact .inl (.inr (.inl h))
    · exact .inr h
  · rw [hkr] at hk; cases hk
    rcases hkr' with h | h
    · exact .inl (.inr (.inr h))
    · exact .inr h
end
end Go.Proofs.Ytibemcofkgbjhaa
