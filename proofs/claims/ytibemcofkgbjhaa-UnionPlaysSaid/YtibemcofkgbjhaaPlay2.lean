/-
  UnionPlays, the plain parts: it returns true and turns nothing that was there. Conditions: the calls' cells are as told, at most 80 of them.
-/
import Derived.Test.YtibemcofkgbjhaaPlay
import Derived.Deep.DeepCutAuto
namespace Go.Proofs.Ytibemcofkgbjhaa
open Go.RowKit

/-- the first one of one's color -/
def firstOf (xs : List Nat) (i : Nat) : Nat := (colorSet xs i).headD 0
theorem colorSet_mem {xs : List Nat} {i k : Nat} (hi : i < xs.length) : k ∈ colorSet xs i ↔ k < xs.length ∧ xs.getD i 0 = xs.getD k 0 := by
  unfold colorSet colorP
  have hin : inB xs i = true := by simp [inB]; omega
  rw [List.mem_filter, hin, Bool.true_and, Int.toNat_natCast, beq_iff_eq, List.mem_range]
theorem firstOf_mem {xs : List Nat} {i : Nat} (hi : i < xs.length) : firstOf xs i ∈ colorSet xs i := by
  have hm := (colorSet_mem hi).2 ⟨hi, rfl⟩
  unfold firstOf
  cases h : colorSet xs i with
  | nil => rw [h] at hm; cases hm
  | cons a t => simp
theorem colorSet_congr {xs : List Nat} {i j : Nat} (hi : i < xs.length) (hj : j < xs.length) (h : xs.getD i 0 = xs.getD j 0) : colorSet xs i = colorSet xs j := by
  unfold colorSet
  apply List.filter_congr
  intro k _
  have h1 : inB xs i = true := by simp [inB]; omega
  have h2 : inB xs j = true := by simp [inB]; omega
  unfold colorP
  rw [h1, h2, Int.toNat_natCast, Int.toNat_natCast, h]
theorem Agree.count {n : Nat} {xs : List Nat} {R : Nat → Nat} (h : Agree n xs R) (hR : ∀ x, x < n → R x < n ∧ R (R x) = R x) : roots (firstOf xs) n = roots R n := by
  have hl := h.1
  have f1 : ∀ x, x < n → firstOf xs x < n ∧ xs.getD x 0 = xs.getD (firstOf xs x) 0 := by
    intro x hx
    have := (colorSet_mem (by omega)).1 (firstOf_mem (xs := xs) (i := x) (by omega))
    exact ⟨by omega, this.2⟩
  have f2 : ∀ x y, x < n → y < n → xs.getD x 0 = xs.getD y 0 → firstOf xs x = firstOf xs y := by
    intro x y hx hy e
    unfold firstOf; rw [colorSet_congr (by omega) (by omega) e]
  refine Nat.le_antisymm (roots_le hR ?_) (roots_le ?_ ?_)
  · intro x y hx hy e; exact f2 x y hx hy ((h.2 x y hx hy).2 e)
  · intro x hx
    exact ⟨(f1 x hx).1, (f2 _ _ hx (f1 x hx).1 (f1 x hx).2).symm⟩
  · intro x y hx hy e
    refine (h.2 x y hx hy).1 ?_
    rw [(f1 x hx).2, (f1 y hy).2, e]

def CountPost (w : World) (n : Nat) (e : Ending) (w' : World) : Prop := e = .returned (.int .i64 n) ∧ Fr (fun _ => False) w w'
set_option maxHeartbeats 1000000 in
theorem refCount (v : Value) (xs : List Nat) (w : World) (h : IRow w v xs) (hl : xs.length ≤ 100000) :
    Calls Try.prog 24 #[v] w (CountPost w (roots (firstOf xs) xs.length)) := by
  obtain ⟨o, c, rfl⟩ := h.form
  have H := Lib.hid h
  clear h
  generalize hp : (fun x => firstOf xs x == x) = p
  have hro : Hid (∀ k, roots (firstOf xs) k = ((List.range k).filter p).length) := by intro k; unfold roots; rw [← hp]
  have hpk : Hid (∀ k, p k = (firstOf xs k == k)) := by intro k; rw [← hp]
  rw [hro.out]
  clear hp hro
  go_enter Try.func24, Try.ntmps24
  go_wp2_with fail
  generalize hn : xs.length = n at *
  have HN := Lib.hid hn
  clear hn
  go_loopw [3, 4] (fun q t wr => ∃ k : Nat, k ≤ n ∧ t = .int .i64 k ∧ q = .int .i64 (((List.range k).filter p).length : Nat) ∧ Fr (fun _ => False) w wr) (fun _ t _ => n - (intOf t).toNat)
  case atStart => exact ⟨0, Nat.zero_le _, rfl, rfl, Fr.refl _ _⟩
  case round =>
    obtain ⟨k, hk, rfl, rfl, hfr⟩ := hrel
    by_cases hlt : k < n
    · have hfl := filter_range_len p k
      have HF : Hid (((List.range (k + 1)).filter p).length = ((List.range k).filter p).length + (if p k then 1 else 0)) := by show _ = _; rw [filter_range_succ, List.length_append]; split <;> simp
      go_wp2_with fail
      refine (refSet _ xs k _ (H.out.fr hfr (fun _ _ h => h)) (by have := HN.out; omega)).mono ?_
      rintro e w1 ⟨v1, rfl, hI, hf1, _⟩
      have hfm := firstOf_mem (xs := xs) (i := k) (by have := HN.out; omega)
      have hne : 0 < (colorSet xs k).length := List.length_pos_of_mem hfm
      obtain ⟨g1, c1, rfl⟩ := ownsRow_some hI hne
      have cg := hI.at hne
      have hg : (colorSet xs k).getD 0 0 = firstOf xs k := by
        unfold firstOf; cases colorSet xs k <;> simp
      rw [hg] at cg
      have hpk' := hpk.out k
      have hfr1 := hfr.trans hf1
      generalize (colorSet xs k).length = cl at *
      generalize ((List.range k).filter p).length = pl at *
      generalize firstOf xs k = fk at *
      have HPK := Lib.hid hpk'
      clear hfm hI hg hpk' hfr hf1
      by_cases he : fk = k
      · have hb := beq_cast _ _ he
        have HE := Lib.hid he
        clear he
        go_wp2
        go_roundw
        case rel => 
          refine ⟨k + 1, by omega, by go_num, ?_, hfr1⟩
          have h1 := HF.out
          rw [HPK.out, beq_iff_eq.2 HE.out, if_pos rfl] at h1
          rw [h1]; go_num
        case measure => simp [intOf]; omega
      · have hb := beq_cast_ne _ _ he
        have HE := Lib.hid he
        clear he
        go_wp2
        go_roundw
        case rel => 
          refine ⟨k + 1, by omega, by go_num, ?_, hfr1⟩
          have h1 := HF.out
          rw [HPK.out, beq_eq_false_iff_ne.2 HE.out, if_neg (by simp)] at h1
          rw [h1]; rfl
        case measure => simp [intOf]; omega
    · have hkn : n = k := by omega
      subst hkn
      go_wp2
      go_ret
      exact ⟨rfl, hfr⟩

def digs (n : Nat) : Nat := if n = 0 then 0 else Nat.log2 n + 1
theorem digs_step {n : Nat} (h : 0 < n) : digs n = digs (n / 2) + 1 := by
  unfold digs
  rw [if_neg (by omega)]
  by_cases h2 : 2 ≤ n
  · rw [if_neg (by omega), Nat.log2_def, if_pos h2]
  · rw [if_pos (by omega), Nat.log2_def, if_neg h2]
theorem digs_le (n : Nat) : digs n ≤ n := by
  unfold digs; split
  · omega
  · have : Nat.log2 n < n := (Nat.log2_lt (by omega)).2 Nat.lt_two_pow_self
    omega
theorem digits_any (n : Nat) (w : World) (hn : n ≤ 100000) : Calls Try.prog 26 #[.int .i64 n] w fun e w' => e = .returned (.int .i64 (digs n)) ∧ w = w' := by
  have hd := digs_le n
  go_enter Try.func26, Try.ntmps26
  go_wp2_with fail
  go_loop [0, 3] (fun t d => ∃ m k : Nat, t = .int .i64 m ∧ d = .int .i64 k ∧ m ≤ n ∧ digs n = k + digs m) (fun t _ => (intOf t).toNat)
  case atStart => exact ⟨n, 0, rfl, rfl, Nat.le_refl _, by omega⟩
  case round =>
    obtain ⟨m, k, rfl, rfl, hm, hk⟩ := hrel
    have hkl : k ≤ n := by omega
    have HK := Lib.hid hk
    clear hk
    by_cases h0 : 0 < m
    · go_wp2
      go_round
      case rel =>
        have := digs_step h0
        have hk := HK.out
        exact ⟨m / 2, k + 1, by go_num, by go_num, by omega, by omega⟩
      case measure => simp [intOf]; omega
    · have hm0 : m = 0 := by omega
      subst hm0
      have hk := HK.out
      have hd0 : digs 0 = 0 := rfl
      go_wp2
      go_ret
      exact ⟨rfl, rfl⟩

/-- a []Op that came in -/
def OpsAt (w : World) (o : Option Addr) (len : Nat) (K : Nat → Nat) (A B : Nat → Int) : Prop :=
  ∀ j, j < len → ∃ b off, o = some ⟨b, off, none⟩ ∧ w.cell? ⟨b, off + j * 3, none⟩ = some (.int .u8 (K j)) ∧ w.cell? ⟨b, off + j * 3 + 1, none⟩ = some (.int .i64 (A j)) ∧ w.cell? ⟨b, off + j * 3 + 2, none⟩ = some (.int .i64 (B j)) ∧ K j ≤ 255
theorem OpsAt.fr {w w' : World} {o : Option Addr} {len : Nat} {K : Nat → Nat} {A B : Nat → Int} (h : OpsAt w o len K A B) (hf : Fr (fun _ => False) w w') : OpsAt w' o len K A B := by
  intro j hj
  obtain ⟨b, off, h1, h2, h3, h4, h5⟩ := h j hj
  exact ⟨b, off, h1, (hf.cell (World.block_lt_of_cell? w _ h2) (fun h => h)).trans h2, (hf.cell (World.block_lt_of_cell? w _ h3) (fun h => h)).trans h3, (hf.cell (World.block_lt_of_cell? w _ h4) (fun h => h)).trans h4, h5⟩

/-- forest and colors, side by side, in blocks from B on -/
structure Both (w : World) (B fb n : Nat) (R : Nat → Nat) (sets st : Nat) (v : Value) (xs : List Nat) : Prop where
  forest : ∃ uv rv, FG w fb uv rv n R sets st ∧ (∀ k, SG fb uv rv k → B ≤ k) ∧ (∀ k, v.ownBlock = some k → ¬ SG fb uv rv k)
  row : IRow w v xs
  agree : Agree n xs R
  low : ∀ x, x < n → xs.getD x 0 < 1000 + n
  blk : ∀ k, v.ownBlock = some k → B ≤ k

theorem Both.fr {S : Nat → Prop} {w w' : World} {B fb n : Nat} {R : Nat → Nat} {sets st : Nat} {v : Value} {xs : List Nat} (h : Both w B fb n R sets st v xs) (hf : Fr S w w') (hS : ∀ k, k < w.heap.size → S k → k < B ) : Both w' B fb n R sets st v xs := by
  obtain ⟨uv, rv, h1, h2, h3⟩ := h.forest
  refine ⟨⟨uv, rv, h1.fr hf (fun k hk hSk => ?_), h2, h3⟩, h.row.fr hf (fun k hk hSk => ?_), h.agree, h.low, h.blk⟩
  · have := hS k (h1.lts k hk) hSk; have := h2 k hk; omega
  · have := hS k (h.row.lt k hk) hSk; have := h.blk k hk; omega
theorem digs_mono {a b : Nat} (h : a ≤ b) : digs a ≤ digs b := by
  unfold digs
  by_cases ha : a = 0
  · rw [if_pos ha]; omega
  · rw [if_neg ha, if_neg (by omega)]
    have : 2 ^ Nat.log2 a ≤ b := Nat.le_trans (Nat.log2_self_le ha) h
    have := log_le this
    omega
theorem log_digs (n : Nat) : Nat.log2 n ≤ digs n := by
  unfold digs; split
  · rename_i h; subst h; decide
  · omega

/-- append(out, xs...): out of the call's own and not nil; xs nil, empty or not -/
theorem wpList_append_row {P : Program} (w : World) {ops : Array Oper} {rest : List Oper} {o : Oper} {a : Act} {Q : Exit → Act → World → Prop}
    (hg : o.guard = none) (s x : Operand) (t : TypeId) (hop : o.op = Op.call { callee := Callee.builtin Builtin.append, args := #[s, x], argTypes := #[t, t] })
    (e : TypeId) (z : Value) (size bytes : Nat) (he : Elem P t e z size bytes)
    (g n cap : Nat) (xs : List Value) (hs : a.eval s = .slice (some ⟨g, 0, none⟩) n cap) (hown : w.ownsRow 0 e size (.slice (some ⟨g, 0, none⟩) n cap) n xs)
    (sv : Value) (m : Nat) (ys : List Value) (hx : a.eval x = sv) (hsv : w.ownsRow 0 e size sv m ys) (h1c : ∀ u ∈ ys, u.oneCell' = true)
    (b1 : n + m ≤ maxLen) (b2 : (n + m) * bytes ≤ 140737488355328)
    (hK : ∀ g' c' w', w'.ownsRow 0 e size (.slice (some ⟨g', 0, none⟩) (n + m) c') (n + m) (xs ++ ys) → Fr (fun k => k = g) w w' → (g' = g ∨ w.heap.size ≤ g') → wpList P ops Q rest (a.put o.dst (.slice (some ⟨g', 0, none⟩) (n + m) c')) w') :
    wpList P ops Q (o :: rest) a w := by
  obtain ⟨i0, hi, hz0, hz1, hz2⟩ := info_parts he.info
  rcases hsv.2 with ⟨rfl, rfl⟩ | ⟨gs, caps, curs, rfl, _, hgs, hms, _, _, hts⟩
  · have hy : ys = [] := List.eq_nil_of_length_eq_zero (by simpa using hsv.1)
    subst hy
    refine wpList_plain hg fun K hK' => ?_
    have hr := run_append_owned_none (P := P) w 0 t o.type e i0 size he.under hi _ n xs hown
    unfold Oper.wp
    simp [execOp, hop, resolve, invoke, builtin, hs, hx, hr, Result.andThen]
    exact hK' _ _ (by simpa using hK g cap w (by simpa using hown) (Fr.refl _ _) (.inl rfl))
  · by_cases hm : m = 0
    · subst hm
      have hy : ys = [] := List.eq_nil_of_length_eq_zero (by simpa using hsv.1)
      subst hy
      have hnc : n ≤ cap := by
        rcases hown.2 with ⟨h, _⟩ | ⟨g', cap', cur, h, _, _, hh, _⟩
        · simp at h
        · simp at h; omega
      refine wpList_append_fits w hg s x t hop 0 e i0 size he.under hi hz1 g n cap xs hs hown ⟨gs, 0, none⟩ 0 caps [] hx (by simp) (by simp) h1c (by omega) ?_
      intro w' ho hgr
      exact hK _ _ _ ho (Fr.grown hgr (fun k hk => by cases hk; rfl)) (.inl rfl)
    · refine wpList_append_two w hg s x t hop 0 e i0 z size bytes he.under hi hz0 hz1 hz2 he.cells he.pos _ n xs hs hown ⟨gs, 0, none⟩ m caps ys hx hsv.1 (hsv.cells (g := gs) rfl) h1c (by omega) b1 b2 (Nat.zero_le _) ?_
      intro v' w' ho hgr ⟨k, hk, hk'⟩
      rcases ho.2 with ⟨rfl, h0⟩ | ⟨g', c', cur', rfl, _⟩
      · omega
      · simp [Value.ownBlock] at hk
        subst hk
        refine hK _ _ _ ho (Fr.grown hgr (fun k hk => by simp [Value.ownBlock] at hk; exact hk.symm)) ?_
        rcases hk' with h | h
        · simp [Value.ownBlock] at h; exact .inl h.symm
        · exact .inr h

theorem Agree.add {n : Nat} {xs : List Nat} {R : Nat → Nat} (h : Agree n xs R) (hlow : ∀ x, x < n → xs.getD x 0 < 1000 + n) (hR : ∀ x, x < n → R x < n) : Agree (n + 1) (xs ++ [n + 1000]) (addR R n) := by
  have hl := h.1
  have gx : ∀ x, x < n → (xs ++ [n + 1000]).getD x 0 = xs.getD x 0 := by intro x hx; rw [getD_snoc, hl, if_pos hx]
  have gn : (xs ++ [n + 1000]).getD n 0 = n + 1000 := by rw [getD_snoc, hl]; simp
  refine ⟨by simp [hl], fun x y hx hy => ?_⟩
  by_cases e1 : x < n <;> by_cases e2 : y < n
  · rw [gx x e1, gx y e2, addR_lt e1, addR_lt e2]; exact h.2 x y e1 e2
  · obtain rfl : y = n := by omega
    rw [gx x e1, gn, addR_lt e1, addR_n]
    have := hlow x e1; have := hR x e1; omega
  · obtain rfl : x = n := by omega
    rw [gx y e2, gn, addR_lt e2, addR_n]
    have := hlow y e2; have := hR y e2; omega
  · obtain rfl : x = n := by omega
    obtain rfl : y = x := by omega
    simp
theorem low_add {n : Nat} {xs : List Nat} (hl : xs.length = n) (hlow : ∀ x, x < n → xs.getD x 0 < 1000 + n) : ∀ x, x < n + 1 → (xs ++ [n + 1000]).getD x 0 < 1000 + (n + 1) := by
  intro x hx
  rw [getD_snoc, hl]
  split
  · rename_i h; have := hlow x h; omega
  · split <;> omega
theorem low_join {n : Nat} {xs : List Nat} {a b : Nat} (hl : xs.length = n) (ha : a < n) (hlow : ∀ x, x < n → xs.getD x 0 < 1000 + n) : ∀ x, x < n → (xs.map (jcol xs a b)).getD x 0 < 1000 + n := by
  intro x hx
  have hg : (xs.map (jcol xs a b)).getD x 0 = jcol xs a b (xs.getD x 0) := by simp [show x < xs.length by omega]
  rw [hg]; unfold jcol; split
  · exact hlow a ha
  · exact hlow x hx

theorem refSame2 (v : Value) (xs : List Nat) (i j : Int) (w : World) (h : IRow w v xs) (hl : xs.length ≤ 100000) :
    Calls Try.prog 22 #[v, .int .i64 i, .int .i64 j] w fun e w' => e = .returned (.bool (inB xs i && inB xs j && xs.getD i.toNat 0 == xs.getD j.toNat 0)) ∧ ∃ n, w' = w.drewN n := by
  by_cases hj : 0 ≤ j ∧ j < xs.length
  · obtain ⟨k, rfl⟩ := Int.eq_ofNat_of_zero_le hj.1
    have e : inB xs (k : Int) = true := by unfold inB; simp; omega
    refine (refSame v xs i k w h hl (by omega)).mono ?_
    rintro e' w' ⟨h1, h2⟩
    refine ⟨?_, h2⟩
    rw [h1, e, Bool.and_true, Int.toNat_natCast]
  · have e : inB xs j = false := by unfold inB; simp; omega
    obtain ⟨o, c, rfl⟩ := h.form
    have hd2 : Hid (decide (0 ≤ j ∧ j < (xs.length : Int)) = false) := by show _ = _; simp; omega
    rw [e, Bool.and_false, Bool.false_and]
    clear hj e h
    by_cases hi : 0 ≤ i ∧ i < xs.length
    · have hd1 : Hid (decide (0 ≤ i ∧ i < (xs.length : Int)) = true) := by show _ = _; simp; omega
      clear hi
      go_enter Try.func22, Try.ntmps22
      go_wp2_with fail
      go_quiet ((first | (go_at_call 21; exact quiet_flip (refIn_b _ _ _ _ _ true hl hd1.out)) | (go_at_call 21; exact quiet_flip (refIn_b _ _ _ _ _ false hl hd2.out))))
      go_wp2
      go_ret
      exact ⟨rfl, nq, rfl⟩
    · have hd1 : Hid (decide (0 ≤ i ∧ i < (xs.length : Int)) = false) := by show _ = _; simp; omega
      clear hi
      go_enter Try.func22, Try.ntmps22
      go_wp2_with fail
      go_quiet ((go_at_call 21; exact quiet_flip (refIn_b _ _ _ _ _ false hl hd1.out)))
      go_wp2
      go_ret
      exact ⟨rfl, nq, rfl⟩
end Go.Proofs.Ytibemcofkgbjhaa
