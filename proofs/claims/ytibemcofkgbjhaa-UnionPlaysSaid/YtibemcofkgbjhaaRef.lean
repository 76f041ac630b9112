/-
  The document's sets: New, Join, In, Same, Set, Count, and whether two lists of numbers are the same. Conditions: the rows are owned, their lengths small.
-/
import Derived.Test.YtibemcofkgbjhaaMem2
import Derived.Test.YtibemcofkgbjhaaFs
import Derived.Deep.QuietTactic
import Derived.BigQuiet
namespace Go.Proofs.Ytibemcofkgbjhaa
open Go.RowKit

/-- a []int (or Sets) of the call's own that holds xs -/
def IRow (w : World) (v : Value) (xs : List Nat) : Prop := w.ownsRow 0 3 1 v xs.length (iv xs)
theorem IRow.fr {S : Nat → Prop} {w w' : World} {v : Value} {xs : List Nat} (h : IRow w v xs) (hf : Fr S w w') (hb : ∀ k, v.ownBlock = some k → ¬ S k) : IRow w' v xs := ownsRow_fr h hf hb
theorem IRow.own {w : World} {v : Value} {xs : List Nat} (h : IRow w v xs) : w.ownsRow 0 3 1 v xs.length (iv xs) := h
theorem IRow.none (w : World) : IRow w (.slice none 0 0) [] := World.ownsRow_nil _ _ _ _
theorem IRow.form {w : World} {v : Value} {xs : List Nat} (h : IRow w v xs) : ∃ o c, v = .slice o xs.length c := ownsRow_len h
theorem IRow.cell {w : World} {o : Option Addr} {n c : Nat} {xs : List Nat} (h : IRow w (.slice o n c) xs) {x : Nat} (hx : x < xs.length) : n = xs.length ∧ ∃ g, o = some ⟨g, 0, Option.none⟩ ∧ w.cell? ⟨g, x, Option.none⟩ = some (.int .i64 (xs.getD x 0 : Nat)) := by
  obtain ⟨g, c', e⟩ := ownsRow_some h (by omega)
  simp at e
  obtain ⟨rfl, rfl, rfl⟩ := e
  refine ⟨rfl, g, rfl, ?_⟩
  rw [h.cellAt x (by omega), iv_get _ _ hx]
theorem IRow.at {w : World} {g n c : Nat} {xs : List Nat} (h : IRow w (.slice (some ⟨g, 0, Option.none⟩) n c) xs) {x : Nat} (hx : x < xs.length) : w.cell? ⟨g, x, Option.none⟩ = some (.int .i64 (xs.getD x 0 : Nat)) := by
  obtain ⟨_, g', hg, h2⟩ := h.cell hx
  simp at hg; subst hg; exact h2
theorem elem38 : Elem Try.prog 38 3 (.int .i64 0) 1 8 := ⟨Try.underlying38, info3, rfl, by decide⟩
theorem elem37 : Elem Try.prog 37 3 (.int .i64 0) 1 8 := ⟨Try.underlying37, info3, rfl, by decide⟩
theorem IRow.snoc {w : World} {g c n : Nat} {xs : List Nat} (h : w.ownsRow 0 3 1 (.slice (some ⟨g, 0, Option.none⟩) (xs.length + 1) c) (xs.length + 1) (iv xs ++ [.int .i64 (n : Int)])) : IRow w (.slice (some ⟨g, 0, Option.none⟩) (xs.length + 1) c) (xs ++ [n]) := by
  unfold IRow
  have e : iv (xs ++ [n]) = iv xs ++ [.int .i64 (n : Int)] := by simp [iv]
  rw [e, List.length_append]; exact h
theorem IRow.lt {w : World} {v : Value} {xs : List Nat} (h : IRow w v xs) : ∀ k, v.ownBlock = some k → k < w.heap.size := fun k hk => (World.ownsRow.lt h k hk).2

/-- a new row -/
def RowNew (xs : List Nat) (w : World) (e : Ending) (w' : World) : Prop := ∃ v, e = .returned v ∧ IRow w' v xs ∧ Fr (fun _ => False) w w' ∧ ∀ k, v.ownBlock = some k → w.heap.size ≤ k

set_option maxHeartbeats 1000000 in
theorem refNew (n : Nat) (w : World) (hn : n ≤ 100000) : Calls Try.prog 13 #[.int .i64 n] w (RowNew (List.range n) w) := by
  go_enter Try.func13, Try.ntmps13
  go_wp2_with fail
  go_loopw [3, 4] (fun v t wr => ∃ k : Nat, k ≤ n ∧ t = .int .i64 k ∧ IRow wr v (List.range k) ∧ Fr (fun _ => False) w wr ∧ ∀ b, v.ownBlock = some b → w.heap.size ≤ b) (fun _ t _ => n - (intOf t).toNat)
  case atStart => exact ⟨0, Nat.zero_le _, rfl, IRow.none _, Fr.refl _ _, by simp [Value.ownBlock]⟩
  case round =>
    obtain ⟨k, hk, rfl, hR, hfr, hb⟩ := hrel
    have hl : (List.range k).length = k := by simp
    obtain ⟨o, c, hv⟩ := hR.form
    rw [hl] at hv
    subst hv
    have HR : Hid (wr.ownsRow 0 3 1 (.slice o k c) k (iv (List.range k))) := by have := hR.own; rw [hl] at this; exact this
    have HB := Lib.hid hb
    clear hR hb hl
    by_cases hlt : k < n
    · go_wp2_with (at_builtin; go_must (refine wpList_append_one _ rfl (.tmp 10) (.tmp 12) 38 rfl 3 (.int .i64 0) 1 8 elem38 _ _ _ rfl HR.out #[.int .i64 k] rfl rfl ?c1 ?c2 ?c3 ?_))
      case c1 => first | rfl | (intro u hu; simp at hu; subst hu; rfl)
      case c2 => unfold maxLen; omega
      case c3 => omega
      intro g c' w1 ho hf hg
      have HO := Lib.hid ho
      have HG := Lib.hid hg
      clear ho hg
      go_wp2
      go_roundw
      case rel =>
        refine ⟨k + 1, by omega, by go_num, ?_, ?_, ?_⟩
        · unfold IRow
          rw [List.length_range, show iv (List.range (k + 1)) = iv (List.range k) ++ [.int .i64 (k : Int)] from by simp [iv, List.range_succ]]
          exact HO.out
        · exact hfr.trans' hf (fun i h1 h2 => by have := HB.out i h2; omega)
        · intro b hb
          simp [Value.ownBlock] at hb
          subst hb
          have := hfr.size
          rcases HG.out with h | h
          · exact HB.out _ h
          · omega
      case measure => simp [intOf]; omega
    · have hkn : n = k := by omega
      subst hkn
      go_wp2
      go_ret
      refine ⟨_, rfl, ?_, hfr, HB.out⟩
      unfold IRow
      rw [List.length_range]; exact HR.out

theorem take_snoc (xs : List Nat) (k : Nat) (hk : k < xs.length) : xs.take (k + 1) = xs.take k ++ [xs.getD k 0] := by
  rw [List.take_succ_eq_append_getElem hk]; simp [hk]

/-- all of the one's color get the other one's -/
def jcol (xs : List Nat) (a b : Nat) (c : Nat) : Nat := if c = xs.getD b 0 then xs.getD a 0 else c

set_option maxHeartbeats 1000000 in
theorem refJoin (v : Value) (xs : List Nat) (a b : Nat) (w : World) (h : IRow w v xs) (hl : xs.length ≤ 100000) (ha : a < xs.length) (hb : b < xs.length) :
    Calls Try.prog 14 #[v, .int .i64 a, .int .i64 b] w (RowNew (xs.map (jcol xs a b)) w) := by
  obtain ⟨g, c, rfl⟩ := ownsRow_some h (by omega)
  have H := Lib.hid h
  have hlt := h.lt g rfl
  clear h
  go_enter Try.func14, Try.ntmps14
  go_wp2_with fail
  generalize hn : xs.length = n at *
  have HN := Lib.hid hn
  clear hn
  go_loopw [7, 8] (fun v t wr => ∃ k : Nat, k ≤ n ∧ t = .int .i64 k ∧ wr.ownsRow 0 3 1 v k (iv ((xs.map (jcol xs a b)).take k)) ∧ Fr (fun _ => False) w wr ∧ ∀ b, v.ownBlock = some b → w.heap.size ≤ b) (fun _ t _ => n - (intOf t).toNat)
  case atStart => exact ⟨0, Nat.zero_le _, rfl, World.ownsRow_nil _ _ _ _, Fr.refl _ _, by simp [Value.ownBlock]⟩
  case round =>
    obtain ⟨k, hk, rfl, hR, hfr, hblk⟩ := hrel
    obtain ⟨o, c', rfl⟩ := ownsRow_len hR
    have HR := Lib.hid hR
    have HB := Lib.hid hblk
    clear hR hblk
    by_cases hlt2 : k < n
    · have hnl := HN.out
      have ck := (hfr.cell (a := ⟨g, k, none⟩) hlt (fun h => h)).trans (H.out.at (x := k) (by omega))
      have ca := (hfr.cell (a := ⟨g, a, none⟩) hlt (fun h => h)).trans (H.out.at (x := a) (by omega))
      have cb := (hfr.cell (a := ⟨g, b, none⟩) hlt (fun h => h)).trans (H.out.at (x := b) (by omega))
      have hj : Hid (jcol xs a b (xs.getD k 0) = if xs.getD k 0 = xs.getD b 0 then xs.getD a 0 else xs.getD k 0) := rfl
      have ht : Hid (iv ((xs.map (jcol xs a b)).take (k + 1)) = iv ((xs.map (jcol xs a b)).take k) ++ [.int .i64 ((jcol xs a b (xs.getD k 0) : Nat) : Int)]) := by
        show _ = _
        rw [take_snoc (xs.map (jcol xs a b)) k (by simp; omega)]
        have : (xs.map (jcol xs a b)).getD k 0 = jcol xs a b (xs.getD k 0) := by simp [show k < xs.length by omega]
        rw [this]; simp [iv]
      clear hnl
      generalize jcol xs a b (xs.getD k 0) = jv at *
      generalize xs.getD k 0 = vk at *
      generalize xs.getD a 0 = va at *
      generalize xs.getD b 0 = vb at *
      by_cases he : vk = vb
      · have hb1 := beq_cast _ _ he
        have hjv : Hid (jv = va) := by have := hj.out; rw [if_pos he] at this; exact this
        clear he hj
        go_wp2_with (at_builtin; go_must (refine wpList_append_one _ rfl (.tmp 30) (.tmp 32) 38 rfl 3 (.int .i64 0) 1 8 elem38 _ _ _ rfl HR.out #[.int .i64 va] rfl rfl ?c1 ?c2 ?c3 ?_))
        case c1 => first | rfl | (intro u hu; simp at hu; subst hu; rfl)
        case c2 => unfold maxLen; omega
        case c3 => omega
        intro g' c'' w1 ho hf hg
        have HO := Lib.hid ho
        have HG := Lib.hid hg
        clear ho hg
        go_wp2
        go_roundw
        case rel =>
          refine ⟨k + 1, by omega, by go_num, by rw [ht.out, hjv.out]; exact HO.out, hfr.trans' hf (fun i h1 h2 => by have := HB.out i h2; omega), ?_⟩
          intro b hb
          simp [Value.ownBlock] at hb
          subst hb
          have := hfr.size
          rcases HG.out with h | h
          · exact HB.out _ h
          · omega
        case measure => simp [intOf]; omega
      · have hb1 := beq_cast_ne _ _ he
        have hjv : Hid (jv = vk) := by have := hj.out; rw [if_neg he] at this; exact this
        clear he hj
        go_wp2_with (at_builtin; go_must (refine wpList_append_one _ rfl (.tmp 30) (.tmp 32) 38 rfl 3 (.int .i64 0) 1 8 elem38 _ _ _ rfl HR.out #[.int .i64 vk] rfl rfl ?c1 ?c2 ?c3 ?_))
        case c1 => first | rfl | (intro u hu; simp at hu; subst hu; rfl)
        case c2 => unfold maxLen; omega
        case c3 => omega
        intro g' c'' w1 ho hf hg
        have HO := Lib.hid ho
        have HG := Lib.hid hg
        clear ho hg
        go_wp2
        go_roundw
        case rel =>
          refine ⟨k + 1, by omega, by go_num, by rw [ht.out, hjv.out]; exact HO.out, hfr.trans' hf (fun i h1 h2 => by have := HB.out i h2; omega), ?_⟩
          intro b hb
          simp [Value.ownBlock] at hb
          subst hb
          have := hfr.size
          rcases HG.out with h | h
          · exact HB.out _ h
          · omega
        case measure => simp [intOf]; omega
    · have hkn : n = k := by omega
      subst hkn
      go_wp2
      go_ret
      refine ⟨_, rfl, ?_, hfr, HB.out⟩
      have h1 := HR.out
      unfold IRow
      rw [List.length_map, HN.out]
      rw [List.take_of_length_le (by have := HN.out; simp; omega)] at h1
      exact h1

/-- whether there is such an element, and whether two are of one color -/
def inB (xs : List Nat) (i : Int) : Bool := decide (0 ≤ i ∧ i < xs.length)
theorem refIn (o : Option Addr) (n c : Nat) (i : Int) (w : World) (hn : n ≤ 100000) :
    Calls Try.prog 21 #[.slice o n c, .int .i64 i] w fun e w' => e = .returned (.bool (decide (0 ≤ i ∧ i < n))) ∧ w = w' := by
  by_cases h1 : 0 ≤ i
  · by_cases h2 : i < n
    · go_enter Try.func21, Try.ntmps21
      go_wp2
      go_ret
      exact ⟨by simp [h1, h2], rfl⟩
    · have hd : decide (i < (n : Int)) = false := by simp; omega
      go_enter Try.func21, Try.ntmps21
      go_wp2
      go_ret
      exact ⟨by first | (simp; done) | (simp; omega), rfl⟩
  · go_enter Try.func21, Try.ntmps21
    go_wp2
    go_ret
    exact ⟨by first | (simp; done) | (simp; omega), rfl⟩

theorem quiet_flip {P : Program} {f : FuncId} {args : Array Value} {w : World} {n : Nat} {v : Value}
    (h : Calls P f args (w.drewN n) fun e w' => e = .returned v ∧ w.drewN n = w') : Calls P f args (w.drewN n) fun e w'' => e = .returned v ∧ ∃ m, w'' = w.drewN m :=
  h.mono fun _ _ ⟨he, hm⟩ => ⟨he, n, hm.symm⟩
theorem refIn_b (o : Option Addr) (n c : Nat) (i : Int) (w : World) (b : Bool) (hn : n ≤ 100000) (hb : decide (0 ≤ i ∧ i < n) = b) :
    Calls Try.prog 21 #[.slice o n c, .int .i64 i] w fun e w' => e = .returned (.bool b) ∧ w = w' := by
  subst hb; exact refIn o n c i w hn

theorem refSame (v : Value) (xs : List Nat) (i : Int) (k : Nat) (w : World) (h : IRow w v xs) (hl : xs.length ≤ 100000) (hk : k < xs.length) :
    Calls Try.prog 22 #[v, .int .i64 i, .int .i64 k] w fun e w' => e = .returned (.bool (inB xs i && xs.getD i.toNat 0 == xs.getD k 0)) ∧ ∃ n, w' = w.drewN n := by
  obtain ⟨g, c, rfl⟩ := ownsRow_some h (by omega)
  have H := Lib.hid h
  clear h
  by_cases hi : 0 ≤ i ∧ i < xs.length
  · have hin : Hid (inB xs i = true) := by show _ = _; simp [inB, hi]
    obtain ⟨j, rfl⟩ := Int.eq_ofNat_of_zero_le hi.1
    have hj : j < xs.length := by omega
    have cj := H.out.at hj
    have ck := H.out.at hk
    have hd1 : Hid (decide (0 ≤ (j : Int) ∧ (j : Int) < (xs.length : Int)) = true) := by show _ = _; simp; omega
    have hd2 : Hid (decide (0 ≤ (k : Int) ∧ (k : Int) < (xs.length : Int)) = true) := by show _ = _; simp; omega
    rw [hin.out, Int.toNat_natCast]
    generalize xs.getD j 0 = vj at *
    generalize xs.getD k 0 = vk at *
    go_enter Try.func22, Try.ntmps22
    go_wp2_with fail
    go_quiet ((first | (go_at_call 21; exact quiet_flip (refIn_b _ _ _ _ _ true hl hd1.out)) | (go_at_call 21; exact quiet_flip (refIn_b _ _ _ _ _ true hl hd2.out))))
    go_wp2
    go_ret
    refine ⟨?_, nq, rfl⟩
    rw [← beq_nat_int]; rfl
  · have hin : Hid (inB xs i = false) := by show _ = _; simp [inB]; omega
    have hd1 : Hid (decide (0 ≤ i ∧ i < (xs.length : Int)) = false) := by show _ = _; simp; omega
    rw [hin.out]
    clear hi
    go_enter Try.func22, Try.ntmps22
    go_wp2_with fail
    go_quiet ((go_at_call 21; exact quiet_flip (refIn_b _ _ _ _ _ false hl hd1.out)))
    go_wp2
    go_ret
    exact ⟨rfl, nq, rfl⟩

/-- all of one's color -/
def colorP (xs : List Nat) (i : Int) (k : Nat) : Bool := inB xs i && xs.getD i.toNat 0 == xs.getD k 0
def colorSet (xs : List Nat) (i : Int) : List Nat := (List.range xs.length).filter (colorP xs i)
theorem filter_range_succ (p : Nat → Bool) (k : Nat) : (List.range (k + 1)).filter p = (List.range k).filter p ++ (if p k then [k] else []) := by
  rw [List.range_succ, List.filter_append]; congr 1; simp [List.filter_cons]
theorem filter_range_len (p : Nat → Bool) (k : Nat) : ((List.range k).filter p).length ≤ k := by
  exact Nat.le_trans (List.length_filter_le _ _) (by simp)

set_option maxHeartbeats 1000000 in
theorem refSet (v : Value) (xs : List Nat) (i : Int) (w : World) (h : IRow w v xs) (hl : xs.length ≤ 100000) :
    Calls Try.prog 19 #[v, .int .i64 i] w (RowNew (colorSet xs i) w) := by
  obtain ⟨o, c, rfl⟩ := h.form
  have H := Lib.hid h
  clear h
  unfold colorSet
  generalize hp : colorP xs i = p
  have HP := Lib.hid hp
  clear hp
  go_enter Try.func19, Try.ntmps19
  go_wp2_with fail
  generalize hn : xs.length = n at *
  have HN := Lib.hid hn
  clear hn
  go_loopw [5, 6] (fun v t wr => ∃ k j : Nat, k ≤ n ∧ j ≤ k ∧ t = .int .i64 k ∧ wr.ownsRow 0 3 1 v j (iv ((List.range k).filter p)) ∧ Fr (fun _ => False) w wr ∧ ∀ b, v.ownBlock = some b → w.heap.size ≤ b) (fun _ t _ => n - (intOf t).toNat)
  case atStart => exact ⟨0, 0, Nat.zero_le _, Nat.zero_le _, rfl, World.ownsRow_nil _ _ _ _, Fr.refl _ _, by simp [Value.ownBlock]⟩
  case round =>
    obtain ⟨k, j, hk, hjk, rfl, hR, hfr, hblk⟩ := hrel
    obtain ⟨o', c', rfl⟩ := ownsRow_len hR
    have HR := Lib.hid hR
    have HB := Lib.hid hblk
    clear hR hblk
    by_cases hlt2 : k < n
    · have hq : Hid (colorP xs i k = p k) := by have := HP.out; show _ = _; rw [this]
      have HF := Lib.hid (filter_range_succ p k)
      go_wp2_with fail
      refine (refSame _ xs i k _ (H.out.fr hfr (fun k hk h => h)) (by have := HN.out; omega) (by have := HN.out; omega)).mono ?_; rintro e w1 ⟨rfl, nq, rfl⟩
      rw [show (inB xs i && xs.getD i.toNat 0 == xs.getD k 0) = p k from hq.out]
      generalize p k = pk at *
      have HR1 : Hid ((wr.drewN nq).ownsRow 0 3 1 (.slice o' j c') j (iv ((List.range k).filter p))) := HR.out
      have hfr1 := hfr.trans (Fr.drewN _ _ nq)
      cases pk
      · go_wp2
        go_roundw
        case rel => exact ⟨k + 1, j, by omega, by omega, by go_num, by rw [HF.out]; simpa using HR1.out, hfr1, HB.out⟩
        case measure => simp [intOf]; omega
      · generalize wr.drewN nq = w1 at *
        go_wp2_with (at_builtin; go_must (refine wpList_append_one _ rfl (.tmp 17) (.tmp 19) 37 rfl 3 (.int .i64 0) 1 8 elem37 _ _ _ rfl HR1.out #[.int .i64 k] rfl rfl ?c1 ?c2 ?c3 ?_))
        case c1 => first | rfl | (intro u hu; simp at hu; subst hu; rfl)
        case c2 => unfold maxLen; omega
        case c3 => omega
        intro g' c'' w2 ho hf hg
        have HO := Lib.hid ho
        have HG := Lib.hid hg
        clear ho hg
        go_wp2
        go_roundw
        case rel =>
          refine ⟨k + 1, j + 1, by omega, by omega, by go_num, by rw [HF.out]; simpa [iv] using HO.out, hfr1.trans' hf (fun i h1 h2 => by have := HB.out i h2; omega), ?_⟩
          intro b hb
          simp [Value.ownBlock] at hb
          subst hb
          have := hfr1.size
          rcases HG.out with h | h
          · exact HB.out _ h
          · omega
        case measure => simp [intOf]; omega
    · have hkn : n = k := by omega
      subst hkn
      go_wp2
      go_ret
      have e : j = ((List.range n).filter p).length := by have := HR.out.1; simp [iv] at this; omega
      refine ⟨_, rfl, ?_, hfr, HB.out⟩
      unfold IRow
      rw [← e]; exact HR.out

set_option maxHeartbeats 1000000 in
theorem refInts (v1 v2 : Value) (xs ys : List Nat) (w : World) (h1 : IRow w v1 xs) (h2 : IRow w v2 ys) (hl : xs.length ≤ 100000) (hl2 : ys.length ≤ 100000) :
    Calls Try.prog 17 #[v1, v2] w fun e w' => e = .returned (.bool (decide (xs = ys))) ∧ ∃ n, w' = w.drewN n := by
  obtain ⟨o, c, rfl⟩ := h1.form
  obtain ⟨o2, c2, rfl⟩ := h2.form
  have H1 := Lib.hid h1
  have H2 := Lib.hid h2
  clear h1 h2
  by_cases hlen : xs.length = ys.length
  · have hb := bne_cast _ _ hlen
    have HLEN := Lib.hid hlen
    clear hlen
    go_enter Try.func17, Try.ntmps17
    go_wp2_with fail
    go_loopw [4, 5] (fun _ t wr => ∃ k : Nat, k ≤ xs.length ∧ t = .int .i64 k ∧ (∀ j, j < k → xs.getD j 0 = ys.getD j 0) ∧ ∃ n, wr = w.drewN n) (fun _ t _ => xs.length - (intOf t).toNat)
    case atStart => exact ⟨0, Nat.zero_le _, rfl, fun j hj => by omega, 0, rfl⟩
    case round =>
      obtain ⟨k, hk, rfl, hall, n, rfl⟩ := hrel
      have HA := Lib.hid hall
      clear hall
      by_cases hlt : k < xs.length
      · obtain ⟨_, g1, rfl, c1⟩ := H1.out.cell hlt
        obtain ⟨_, g2, rfl, c2⟩ := H2.out.cell (x := k) (by have := HLEN.out; omega)
        have hky : k < ys.length := by have := HLEN.out; omega
        generalize hx : xs.getD k 0 = vx at *
        generalize hy : ys.getD k 0 = vy at *
        have HX := Lib.hid hx
        have HY := Lib.hid hy
        clear hx hy
        by_cases he : vx = vy
        · have hb2 := bne_cast _ _ he
          have HE := Lib.hid he
          clear he
          go_wp2_with fail
          go_quiet (fail)
          go_wp2
          go_roundw
          case rel =>
            refine ⟨k + 1, by omega, by go_num, ?_, n + nq, by first | rfl | rw [World.drewN_drewN]⟩
            intro j hj
            by_cases e : j = k
            · subst e; rw [HX.out, HY.out]; exact HE.out
            · exact HA.out j (by omega)
          case measure => simp [intOf]; omega
        · have hb2 := bne_cast_ne _ _ he
          have HE := Lib.hid he
          clear he
          go_wp2_with fail
          go_quiet (fail)
          go_wp2
          go_ret
          have : ¬ xs = ys := fun e => HE.out (by rw [← HX.out, ← HY.out, e])
          exact ⟨by simp [this], n + nq, by first | rfl | rw [World.drewN_drewN]⟩
      · go_wp2
        go_ret
        have : xs = ys := by
          apply List.ext_getElem HLEN.out
          intro j h1 h2
          have := HA.out j (by omega)
          simpa [h1, h2] using this
        exact ⟨by simp [this], n, rfl⟩
  · have hb := bne_cast_ne _ _ hlen
    have HLEN := Lib.hid hlen
    clear hlen
    go_enter Try.func17, Try.ntmps17
    go_wp2
    go_ret
    have : ¬ xs = ys := fun e => HLEN.out (by rw [e])
    exact ⟨by simp [this], 0, rfl⟩
end Go.Proofs.Ytibemcofkgbjhaa
