/-
  Set of a forest: the elements of one's set, by two closures that are handed on. Conditions: the forest lies in memory (FS), steps stay small.
-/
import Derived.Test.YtibemcofkgbjhaaRef
import Derived.Deep.RegionWith
namespace Go.Proofs.Ytibemcofkgbjhaa
open Go.RowKit

def FSFind (fb ub rb n : Nat) (R : Nat → Nat) (sets steps : Nat) (w w' : World) : Prop :=
  ∃ st, FS w' fb ub rb n R sets st ∧ steps ≤ st ∧ st ≤ steps + 2 * Nat.log2 n + 2 ∧ Fr (fun k => k = fb ∨ k = ub ∨ k = rb) w w' ∧ w'.heap.size = w.heap.size
theorem find_fs (fb ub rb n : Nat) (R : Nat → Nat) (sets steps i : Nat) (w : World) (h : FS w fb ub rb n R sets steps) (hi : i < n) (hs : steps + 2 * Nat.log2 n + 2 ≤ 4611686018427387904) :
    Calls Try.prog 28 #[.pointer (some ⟨fb, 0, none⟩), .int .i64 i] w fun e w' => e = .returned (.int .i64 (R i)) ∧ FSFind fb ub rb n R sets steps w w' := by
  obtain ⟨up, rk, uc, rc, rfl, hf, hw⟩ := h
  refine (find_any fb ub rb uc rc up rk sets steps R _ _ i w hf hw.rooted hi hs).mono ?_
  rintro e w' ⟨h1, up', st, h3, h4, h5, h6, h7, h8, h9⟩
  exact ⟨h1, st, ⟨up', rk, uc, rc, h5, h3, hw.of_rooted h5 h4⟩, h6, h7, h8.widen, h9⟩

set_option maxHeartbeats 1000000 in
theorem is_any (fb ub rb n : Nat) (R : Nat → Nat) (sets steps k xf xr r : Nat) (w : World) (h : FS w fb ub rb n R sets steps) (hk : k < n) (hs : steps + 2 * Nat.log2 n + 2 ≤ 4611686018427387904)
    (cf : w.cell? ⟨xf, 0, none⟩ = some (.pointer (some ⟨fb, 0, none⟩))) (cr : w.cell? ⟨xr, 0, none⟩ = some (.int .i64 r)) (h2 : xr ≠ fb ∧ xr ≠ ub ∧ xr ≠ rb) :
    Calls Try.prog 30 #[.int .i64 k, .pointer (some ⟨xf, 0, none⟩), .pointer (some ⟨xr, 0, none⟩)] w fun e w' => e = .returned (.bool (R k == r)) ∧ FSFind fb ub rb n R sets steps w w' := by
  have H := Lib.hid h
  have hlr := World.block_lt_of_cell? w _ cr
  have H2 := Lib.hid h2
  clear h h2
  go_enter Try.func30, Try.ntmps30
  go_wp2_with fail
  go_region_with (go_at_call 28; refine (find_fs fb ub rb n R sets steps k _ H.out.drew hk hs).mono ?_; rintro e w1 ⟨rfl, st, hF, hs1, hs2, hf, hz⟩; have cr1 := (hf.cellb (b := xr) (off := 0) hlr (by have := H2.out; omega)).trans cr; have HF := Lib.hid hF; clear hF; have HZ := Lib.hid hz; clear hz)
  all_goals
    go_wp2
    go_ret
    refine ⟨?_, st, HF.out, hs1, hs2, (Fr.drew _ _).trans hf, HZ.out⟩
    rw [← beq_nat_int]; rfl

/-- the row that a closure gathers, in a variable of its own: block ob; the row's own block from L on -/
def OutAt (w : World) (ob L : Nat) (xs : List Nat) : Prop :=
  ∃ v j, w.heap[ob]? = some (.cells #[v] 37 (0, 0)) ∧ w.ownsRow 0 3 1 v j (iv xs) ∧ (∀ b, v.ownBlock = some b → L ≤ b) ∧ ob < L
def OutFr (ob L : Nat) (w w' : World) : Prop := Fr (fun k => k = ob ∨ L ≤ k) w w'
theorem OutAt.fr {S : Nat → Prop} {w w' : World} {ob L : Nat} {xs : List Nat} (h : OutAt w ob L xs) (hf : Fr S w w') (hs : ∀ k, S k → k ≠ ob ∧ k < L) : OutAt w' ob L xs := by
  obtain ⟨v, j, h1, h2, h3, h4⟩ := h
  refine ⟨v, j, ?_, ownsRow_fr h2 hf (fun k hk hS => by have := hs k hS; have := h3 k hk; omega), h3, h4⟩
  rw [hf.block ob (Array.getElem?_eq_some_iff.1 h1).1 (fun hS => (hs ob hS).1 rfl)]; exact h1

set_option maxHeartbeats 1000000 in
theorem do_any (k ob L : Nat) (xs : List Nat) (w : World) (h : OutAt w ob L xs) (hl : xs.length ≤ 100000) (hL : L ≤ w.heap.size) :
    Calls Try.prog 31 #[.int .i64 k, .pointer (some ⟨ob, 0, none⟩)] w fun e w' => e = .returned (.tuple #[]) ∧ OutAt w' ob L (xs ++ [k]) ∧ OutFr ob L w w' := by
  obtain ⟨v, j, hb, ho, hv, hob⟩ := h
  obtain ⟨o, c, rfl⟩ := ownsRow_len ho
  have hj : j = xs.length := by have := ho.1; simp [iv] at this; omega
  have hjl : j ≤ 100000 := by omega
  have co : w.cell? ⟨ob, 0, none⟩ = some (.slice o j c) := by simp [World.cell?, hb]
  have zo : w.frozen? ⟨ob, 0, none⟩ = false := by simp [World.frozen?, hb]
  have hol : ob < w.heap.size := (Array.getElem?_eq_some_iff.1 hb).1
  have HO := Lib.hid ho
  have HV := Lib.hid hv
  have HB := Lib.hid hb
  clear hj ho hv hb
  go_enter Try.func31, Try.ntmps31
  go_wp2_with (at_builtin; go_must (refine wpList_append_one _ rfl (.tmp 3) (.tmp 5) 37 rfl 3 (.int .i64 0) 1 8 elem37 _ _ _ rfl HO.out #[.int .i64 k] rfl rfl ?c1 ?c2 ?c3 ?_))
  case c1 => first | rfl | (intro u hu; simp at hu; subst hu; rfl)
  case c2 => unfold maxLen; omega
  case c3 => omega
  intro g c' w1 ho1 hf hg
  have hne : (Value.slice o j c).ownBlock ≠ some ob := fun e => by have := HV.out ob e; omega
  have hb1 : w1.heap[ob]? = some (.cells #[.slice o j c] 37 (0, 0)) := by rw [hf.block ob hol hne]; exact HB.out
  have co1 : w1.cell? ⟨ob, 0, none⟩ = some (.slice o j c) := by simp [World.cell?, hb1]
  have zo1 : w1.frozen? ⟨ob, 0, none⟩ = false := by simp [World.frozen?, hb1]
  have HO1 := Lib.hid ho1
  have HG := Lib.hid hg
  have HB1 := Lib.hid hb1
  have HF := Lib.hid hf
  clear ho1 hg hb1 hf co zo
  have hgo : Hid (g ≠ ob ∧ L ≤ g) := by
    rcases HG.out with h | h
    · have := HV.out g h; show _ ∧ _; omega
    · show _ ∧ _; omega
  go_wp2
  go_end0
  refine ⟨rfl, ⟨.slice (some ⟨g, 0, none⟩) (j + 1) c', j + 1, ?_, ?_, ?_, hob⟩, ?_⟩
  · exact heap_setCell_at _ _ _ _ _ _ _ HB1.out
  · refine ownsRow_setCell_other ?_ _ _ (by have := hgo.out; simp [Value.ownBlock]; omega)
    rw [show iv (xs ++ [k]) = iv xs ++ [.int .i64 (k : Int)] from by simp [iv]]; exact HO1.out
  · intro b hb; simp [Value.ownBlock] at hb; have := hgo.out; omega
  · exact (HF.out.mono (fun k _ hk => .inr (HV.out k hk))).trans (Fr.setCell (fun k => k = ob ∨ L ≤ k) w1 ⟨ob, 0, none⟩ _ (.inl rfl))

def EachPost (fb ub rb n : Nat) (R : Nat → Nat) (sets steps ob L r : Nat) (w w' : World) : Prop :=
  ∃ st, FS w' fb ub rb n R sets st ∧ steps ≤ st ∧ st ≤ steps + n * (2 * Nat.log2 n + 2) ∧ OutAt w' ob L ((List.range n).filter (fun k => R k == r)) ∧ Fr (fun k => k = fb ∨ k = ub ∨ k = rb ∨ k = ob ∨ L ≤ k) w w'

set_option maxHeartbeats 1000000 in
theorem each_any (fb ub rb n : Nat) (R : Nat → Nat) (sets steps xf xr ob L r : Nat) (w : World) (h : FS w fb ub rb n R sets steps) (hs : steps + n * (2 * Nat.log2 n + 2) ≤ 4611686018427387904) (hn : n ≤ 100000)
    (cf : w.cell? ⟨xf, 0, none⟩ = some (.pointer (some ⟨fb, 0, none⟩))) (cr : w.cell? ⟨xr, 0, none⟩ = some (.int .i64 r)) (ho : OutAt w ob L []) (hL : L ≤ w.heap.size)
    (h1 : xf ≠ fb ∧ xf ≠ ub ∧ xf ≠ rb ∧ xf ≠ ob ∧ xf < L) (h2 : xr ≠ fb ∧ xr ≠ ub ∧ xr ≠ rb ∧ xr ≠ ob ∧ xr < L) (h3 : ob ≠ fb ∧ ob ≠ ub ∧ ob ≠ rb ∧ fb < L ∧ ub < L ∧ rb < L) :
    Calls Try.prog 29 #[.pointer (some ⟨fb, 0, none⟩), .func (.func 30) #[] #[.pointer (some ⟨xf, 0, none⟩), .pointer (some ⟨xr, 0, none⟩)], .func (.func 31) #[] #[.pointer (some ⟨ob, 0, none⟩)]] w fun e w' => e = .returned (.tuple #[]) ∧ EachPost fb ub rb n R sets steps ob L r w w' := by
  obtain ⟨uc, c0⟩ := h.c0
  have H := Lib.hid h
  have HO := Lib.hid ho
  have H1 := Lib.hid h1
  have H2 := Lib.hid h2
  have H3 := Lib.hid h3
  clear h ho h1 h2 h3
  go_enter Try.func29, Try.ntmps29
  go_wp2_with fail
  go_loopw [6, 12] (fun _ t wr => ∃ k st, k ≤ n ∧ t = .int .i64 (k : Nat) ∧ FS wr fb ub rb n R sets st ∧ steps ≤ st ∧ st ≤ steps + k * (2 * Nat.log2 n + 2) ∧ OutAt wr ob L ((List.range k).filter (fun k => R k == r)) ∧ Fr (fun k => k = fb ∨ k = ub ∨ k = rb ∨ k = ob ∨ L ≤ k) w wr) (fun _ t _ => n - (intOf t).toNat)
  case atStart => exact ⟨0, steps, Nat.zero_le _, rfl, H.out, Nat.le_refl _, by omega, HO.out, Fr.refl _ _⟩
  case round =>
    obtain ⟨k, st, hk, rfl, hF, hs1, hs2, hO, hfr⟩ := hrel
    have HF := Lib.hid hF
    have HOk := Lib.hid hO
    clear hF hO
    by_cases hlt : k < n
    · have hcf := (hfr.cellb (b := xf) (off := 0) (World.block_lt_of_cell? w _ cf) (by have := H1.out; omega)).trans cf
      have hcr := (hfr.cellb (b := xr) (off := 0) (World.block_lt_of_cell? w _ cr) (by have := H2.out; omega)).trans cr
      have hlog : Hid (st + (2 * Nat.log2 n + 2) ≤ steps + (k + 1) * (2 * Nat.log2 n + 2)) := by
        show _ ≤ _
        rw [Nat.succ_mul k (2 * Nat.log2 n + 2)]; have h5 := hs2; generalize k * (2 * Nat.log2 n + 2) = kk at h5 ⊢; omega
      have hlog2 : Hid ((k + 1) * (2 * Nat.log2 n + 2) ≤ n * (2 * Nat.log2 n + 2)) := Nat.mul_le_mul_right _ (by omega)
      have HFI2 : Hid ((List.range (k + 1)).filter (fun k => R k == r) = (List.range k).filter (fun k => R k == r) ++ (if (R k == r) then [k] else [])) := filter_range_succ _ k
      have hwl : L ≤ wr.heap.size := Nat.le_trans hL hfr.size
      clear hs2
      go_wp2_with fail
      refine (is_any fb ub rb n R sets st k xf xr r _ HF.out hlt (by have := hlog.out; have := hlog2.out; omega) hcf hcr (by have := H2.out; omega)).mono ?_
      rintro e w1 ⟨rfl, st1, hF1, hs3, hs4, hf1, hz1⟩
      have HF1 := Lib.hid hF1
      have HO1 := Lib.hid (HOk.out.fr hf1 (fun k hk => by have := H3.out; omega))
      have hfr1 := hfr.trans (hf1.mono (fun k _ hk => by omega))
      clear hF1 hf1 hcf hcr
      have hl1 : L ≤ w1.heap.size := by omega
      clear hz1
      have hlen := filter_range_len (fun k => R k == r) k
      generalize (R k == r) = bk at *
      cases bk
      · go_wp2
        go_roundw
        case rel => exact ⟨k + 1, st1, by omega, by go_num, HF1.out, by omega, by have := hlog.out; omega, by rw [HFI2.out]; simpa using HO1.out, hfr1⟩
        case measure => simp [intOf]; omega
      · go_wp2_with fail
        refine (do_any k ob L _ _ HO1.out (by omega) hl1).mono ?_
        rintro e w2 ⟨rfl, hO2, hf2⟩
        have HO2 := Lib.hid hO2
        have HF2 := Lib.hid (HF1.out.fr hf2 (by have := H3.out; omega) (by have := H3.out; omega) (by have := H3.out; omega))
        have hfr2 := hfr1.trans (Fr.mono hf2 (T := fun k => k = fb ∨ k = ub ∨ k = rb ∨ k = ob ∨ L ≤ k) (fun k _ hk => by omega))
        clear hO2 hf2
        go_wp2
        go_roundw
        case rel => exact ⟨k + 1, st1, by omega, by go_num, HF2.out, by omega, by have := hlog.out; omega, by rw [HFI2.out]; simpa using HO2.out, hfr2⟩
        case measure => simp [intOf]; omega
    · have hkn : n = k := by omega
      subst hkn
      go_wp2
      go_end0
      exact ⟨rfl, st, HF.out, hs1, hs2, HOk.out, hfr⟩

def SetPost (fb ub rb n : Nat) (R : Nat → Nat) (sets steps i : Nat) (w : World) (e : Ending) (w' : World) : Prop :=
  ∃ st v, e = .returned v ∧ FS w' fb ub rb n R sets st ∧ steps ≤ st ∧ st ≤ steps + (n + 1) * (2 * Nat.log2 n + 2) ∧ IRow w' v ((List.range n).filter (fun k => R k == R i)) ∧ (∀ b, v.ownBlock = some b → w.heap.size ≤ b) ∧ Fr (fun k => k = fb ∨ k = ub ∨ k = rb) w w'

set_option maxHeartbeats 1000000 in
theorem set_any (fb ub rb n : Nat) (R : Nat → Nat) (sets steps i : Nat) (w : World) (h : FS w fb ub rb n R sets steps) (hi : i < n) (hs : steps + (n + 1) * (2 * Nat.log2 n + 2) ≤ 4611686018427387904) (hn : n ≤ 100000) :
    Calls Try.prog 18 #[.pointer (some ⟨fb, 0, none⟩), .int .i64 i] w (SetPost fb ub rb n R sets steps i w) := by
  have hlts := h.lts
  have hq : Hid (steps + (2 * Nat.log2 n + 2) + n * (2 * Nat.log2 n + 2) = steps + (n + 1) * (2 * Nat.log2 n + 2)) := by show _ = _; rw [Nat.succ_mul n (2 * Nat.log2 n + 2)]; omega
  have HS := Lib.hid hs
  have H := Lib.hid h
  clear h hs
  go_enter Try.func18, Try.ntmps18
  go_wp2_with fail
  have HA := Lib.hid (H.out.fr (Fr.alloc (fun _ => False) w (.cells #[.pointer (some ⟨fb, 0, none⟩)] 25)) (fun h => h) (fun h => h) (fun h => h))
  obtain ⟨uc, c0⟩ := HA.out.c0
  refine (there_yes fb n uc _ i _ c0 hi (by omega)).mono ?_; rintro e w1 ⟨rfl, rfl⟩
  go_wp2_with fail
  refine (find_fs fb ub rb n R sets steps i _ (HA.out.fr (Fr.alloc (fun _ => False) _ (.cells #[.slice none 0 0] 37)) (fun h => h) (fun h => h) (fun h => h)) hi (by have := hq.out; have := HS.out; omega)).mono ?_
  rintro e w1 ⟨rfl, st1, hF1, hs1, hs2, hf1, hz1⟩
  have HF1 := Lib.hid hF1
  have HZ1 : Hid (w1.heap.size = w.heap.size + 2) := by show _ = _; rw [hz1]; simp
  have hbF : w1.heap[w.heap.size]? = some (.cells #[.pointer (some ⟨fb, 0, none⟩)] 25) := by
    rw [hf1.block w.heap.size (by simp; omega) (by omega), Below.heap_alloc _ _ _ (by simp)]; exact heap_alloc_new w _
  have hbO : w1.heap[w.heap.size + 1]? = some (.cells #[.slice none 0 0] 37) := by
    rw [hf1.block (w.heap.size + 1) (by simp) (by omega)]
    have := heap_alloc_new (w.alloc (.cells #[.pointer (some ⟨fb, 0, none⟩)] 25)) (.cells #[.slice none 0 0] 37)
    simpa using this
  have HBF := Lib.hid hbF
  have HBO := Lib.hid hbO
  have hfr1 := ((Fr.alloc (fun k => k = fb ∨ k = ub ∨ k = rb) w (.cells #[.pointer (some ⟨fb, 0, none⟩)] 25)).trans (Fr.alloc _ _ (.cells #[.slice none 0 0] 37))).trans hf1
  have cF : w1.cell? ⟨w.heap.size, 0, none⟩ = some (.pointer (some ⟨fb, 0, none⟩)) := by simp [World.cell?, hbF]
  have hlt1 : w.heap.size < w1.heap.size := by have := HZ1.out; omega
  have hlt2 : w.heap.size + 1 < w1.heap.size := by have := HZ1.out; omega
  clear hF1 hz1 hbF hbO hf1
  go_wp2_with fail
  have HW : Hid (Fr (fun _ => False) w1 (w1.alloc (.cells #[.int .i64 (R i)] 3))) := Fr.alloc _ _ _
  have hszW : (w1.alloc (.cells #[.int .i64 (R i)] 3)).heap.size = w1.heap.size + 1 := by simp
  have cR : (w1.alloc (.cells #[.int .i64 (R i)] 3)).cell? ⟨w1.heap.size, 0, none⟩ = some (.int .i64 (R i)) := cell_new _ _ _ _ rfl
  have cF2 := (HW.out.cellb (b := w.heap.size) (off := 0) hlt1 (fun h => h)).trans cF
  have HO2 : Hid (OutAt (w1.alloc (.cells #[.int .i64 (R i)] 3)) (w.heap.size + 1) (w1.heap.size + 1) []) :=
    ⟨.slice none 0 0, 0, by rw [HW.out.block _ hlt2 (fun h => h)]; exact HBO.out, World.ownsRow_nil _ _ _ _, by simp [Value.ownBlock], by omega⟩
  refine (each_any fb ub rb n R sets st1 w.heap.size w1.heap.size (w.heap.size + 1) (w1.heap.size + 1) (R i) _ (HF1.out.fr HW.out (fun h => h) (fun h => h) (fun h => h)) (by have := hq.out; have := HS.out; omega) hn cF2 cR HO2.out (by rw [hszW]; exact Nat.le_refl _) (by omega) (by omega) (by omega)).mono ?_
  rintro e w2 ⟨rfl, st2, hF2, hs3, hs4, ⟨v, j, hv1, hv2, hv3, hv4⟩, hfr2⟩
  obtain ⟨o, c, rfl⟩ := ownsRow_len hv2
  have hj : j = ((List.range n).filter (fun k => R k == R i)).length := by have := hv2.1; simp [iv] at this; omega
  have co : w2.cell? ⟨w.heap.size + 1, 0, none⟩ = some (.slice o j c) := by simp [World.cell?, hv1]
  have HFIN : Hid (SetPost fb ub rb n R sets steps i w (.returned (.slice o j c)) w2) := by
    refine ⟨st2, _, rfl, hF2, by omega, by have := hq.out; omega, ?_, ?_, ?_⟩
    · unfold IRow; rw [← hj]; exact hv2
    · intro b hb; have := hv3 b hb; omega
    · refine (hfr1.trans (HW.out.mono (fun k _ h => h.elim))).trans' hfr2 ?_
      intro i hi h; omega
  clear hv1 hv2 hv3 hj hF2
  go_wp2
  go_ret
  exact HFIN.out
end Go.Proofs.Ytibemcofkgbjhaa
