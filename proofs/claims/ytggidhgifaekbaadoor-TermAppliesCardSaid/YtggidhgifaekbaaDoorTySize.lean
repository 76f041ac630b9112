/-
  The program's Size, Has and Depth. Conditions: the types lie in memory as told; there are few of them.
-/
import Derived.Test.YtggidhgifaekbaaDoorTyEach
import Derived.OneCell
namespace Go.Proofs.YtggidhgifaekbaaDoor
open Go.RowKit Go.Shelf

/-- a captured variable -/
def Box1 (w : World) (c : Nat) (v : Value) (t : TypeId) : Prop := w.heap[c]? = some (.cells #[v] t (0, 0))
theorem Box1.alloc {w : World} {c : Nat} {v : Value} {t : TypeId} (h : Box1 w c v t) (o : Obj) : Box1 (w.alloc o) c v t := by
  unfold Box1 at *
  rw [Below.heap_alloc _ _ _ (lt_of_block h)]; exact h
theorem Box1.new (w : World) (v : Value) (t : TypeId) : Box1 (w.alloc (.cells #[v] t)) w.heap.size v t := heap_alloc_new w _
theorem Quiet0.setCell_new {w0 w : World} (h : Quiet0 w0 w) {p : Addr} (hp : w0.heap.size ≤ p.block) (u : Value) : Quiet0 w0 (w.setCell p u) :=
  Fr.trans' h (Fr.setCell (fun k => k = p.block) w p u rfl) (fun i hi e => by omega)
def SizeJ (w0 : World) (c : Nat) (m : Nat) (_ : Unit) (W : World) : Prop := Box1 W c (.int .i64 (m : Nat)) 3 ∧ Quiet0 w0 W
set_option maxHeartbeats 1000000 in
theorem size1_any (w0 : World) (c : Nat) (hc : w0.heap.size ≤ c) : EachK 92 #[.pointer (some ⟨c, 0, none⟩)] 10000000 w0 (fun _ => True) (fun _ k => k = c) (fun _ _ _ _ => ()) (SizeJ w0 c) where
  quiet := fun m s W h => h.2
  alloc := fun m s W o h => ⟨h.1.alloc o, h.2.trans (Quiet0.alloc _ _)⟩
  low := fun m s W h k hk => by subst hk; exact lt_of_block h.1
  back := fun m s W o k h hk => hk
  call := by
    intro m s k n ps W o len cap hm hJ hs _
    have HJ := Lib.hid hJ
    have hb := hJ.1.alloc (.cells #[.int .i64 k, .int .i64 n, .slice o len cap] 24)
    have c1 := cell_of_one hb
    have z1 := free_of_one hb
    have HB := Lib.hid hb
    have hcl := lt_of_block hJ.1
    have HEND : Hid (∀ u : Value, u = .int .i64 ((m + 1 : Nat) : Int) → (SizeJ w0 c (m + 1) () ((W.setCell ⟨c, 0, none⟩ u).alloc (.cells #[.int .i64 k, .int .i64 n, .slice o len cap] 24)) ∧ Fr (fun k => k = c) W ((W.setCell ⟨c, 0, none⟩ u).alloc (.cells #[.int .i64 k, .int .i64 n, .slice o len cap] 24)))) := by
      rintro u rfl
      exact ⟨⟨Box1.alloc (one_setCell HJ.out.1) _, (HJ.out.2.setCell_new (p := ⟨c, 0, none⟩) hc _).trans (Quiet0.alloc _ _)⟩, (Fr.setCell (fun k => k = c) W ⟨c, 0, none⟩ _ rfl).trans (Fr.alloc _ _ _)⟩
    clear hJ hs hb
    unfold tyv
    go_enter Tryd.func92, Tryd.ntmps92
    go_wp2_with fail
    go_end0
    exact ⟨rfl, HEND.out _ (by go_num)⟩
theorem eg_size : ∀ args w, (callFunc 92 args).run Tryd.prog w = .ok (.enter 92 args) w := enters_of Tryd.func92 (by kernel_rfl) rfl
set_option maxHeartbeats 1000000 in
theorem size_any (k n : Int) (ps : Fo) (w : World) (o : Option Addr) (len cap : Nat) (hs : Slc w o len ps) (hsz : ps.size ≤ 1000000) :
    Calls Tryd.prog 45 #[tyv k n o len cap] w fun e w' => e = .returned (.int .i64 ((ps.size + 1 : Nat) : Int)) ∧ Quiet0 w w' := by
  obtain ⟨c, hc⟩ : ∃ c, c = w.heap.size + 1 := ⟨_, rfl⟩
  have HE := Lib.hid (each_any eg_size (size1_any w c (by omega)) k n ps 0 () ((w.alloc (.cells #[.int .i64 k, .int .i64 n, .slice o len cap] 24)).alloc (.cells #[.int .i64 0] 3)) o len cap ⟨by
      have := Box1.new (w.alloc (.cells #[.int .i64 k, .int .i64 n, .slice o len cap] 24)) (.int .i64 0) 3
      have e : (w.alloc (.cells #[.int .i64 k, .int .i64 n, .slice o len cap] 24)).heap.size = c := by rw [hc]; simp
      rw [e] at this; exact this, (Quiet0.alloc _ _).trans (Quiet0.alloc _ _)⟩ hs (by omega) trivial (allF_true (fun _ => trivial) ps))
  rw [Nat.zero_add] at HE
  rw [hc] at HE
  clear hs hc
  unfold tyv at *
  go_enter Tryd.func45, Tryd.ntmps45
  go_wp2_with fail
  refine HE.out.mono ?_; rintro e w1 ⟨rfl, hj⟩
  have c1 := cell_of_one hj.1
  have HJ := Lib.hid hj
  clear hj
  go_wp2_with fail
  go_ret
  exact ⟨rfl, HJ.out.2⟩

/-- types.Has -/
def hasStep (v : Int) (s : Bool) (k n : Int) (_ : Fo) : Bool := s || ((k == 1) && (n == v))
def HasJ (w0 : World) (c d : Nat) (v : Int) (_ : Nat) (s : Bool) (W : World) : Prop := Box1 W c (.bool s) 4 ∧ Box1 W d (.int .i64 v) 3 ∧ Quiet0 w0 W
set_option maxHeartbeats 1000000 in
theorem has1_any (w0 : World) (c d : Nat) (v : Int) (hc : w0.heap.size ≤ c) (hcd : c ≠ d) : EachK 93 #[.pointer (some ⟨c, 0, none⟩), .pointer (some ⟨d, 0, none⟩)] 10000000 w0 (fun _ => True) (fun _ k => k = c) (hasStep v) (HasJ w0 c d v) where
  quiet := fun m s W h => h.2.2
  alloc := fun m s W o h => ⟨h.1.alloc o, h.2.1.alloc o, h.2.2.trans (Quiet0.alloc _ _)⟩
  low := fun m s W h k hk => by subst hk; exact lt_of_block h.1
  back := fun m s W o k h hk => hk
  call := by
    intro m s k n ps W o len cap hm hJ hs _
    have HJ := Lib.hid hJ
    have hb := hJ.1.alloc (.cells #[.int .i64 k, .int .i64 n, .slice o len cap] 24)
    have hd := hJ.2.1.alloc (.cells #[.int .i64 k, .int .i64 n, .slice o len cap] 24)
    have c1 := cell_of_one hb
    have z1 := free_of_one hb
    have d1 := cell_of_one hd
    have HB := Lib.hid hb
    have HD := Lib.hid hd
    have hcl := lt_of_block hJ.1
    have hdl := lt_of_block hJ.2.1
    have HEND : Hid (∀ u : Value, u = .bool (hasStep v s k n ps) → (HasJ w0 c d v (m + 1) (hasStep v s k n ps) ((W.setCell ⟨c, 0, none⟩ u).alloc (.cells #[.int .i64 k, .int .i64 n, .slice o len cap] 24)) ∧ Fr (fun k => k = c) W ((W.setCell ⟨c, 0, none⟩ u).alloc (.cells #[.int .i64 k, .int .i64 n, .slice o len cap] 24)))) := by
      rintro u rfl
      refine ⟨⟨Box1.alloc (one_setCell HJ.out.1) _, ?_, (HJ.out.2.2.setCell_new (p := ⟨c, 0, none⟩) hc _).trans (Quiet0.alloc _ _)⟩, (Fr.setCell (fun k => k = c) W ⟨c, 0, none⟩ _ rfl).trans (Fr.alloc _ _ _)⟩
      refine Box1.alloc ?_ _
      have := HJ.out.2.1
      unfold Box1 at *
      rw [Below.heap_setCell _ _ _ _ (fun e => hcd e.symm)]; exact this
    clear hJ hs hb hd
    unfold tyv
    cases s
    · cases hk : (k == 1)
      · go_enter Tryd.func93, Tryd.ntmps93
        go_wp2_with fail
        go_end0
        exact ⟨rfl, HEND.out _ (by simp [hasStep, hk])⟩
      · go_enter Tryd.func93, Tryd.ntmps93
        go_wp2_with fail
        go_end0
        exact ⟨rfl, HEND.out _ (by simp [hasStep, hk])⟩
    · go_enter Tryd.func93, Tryd.ntmps93
      go_wp2_with fail
      go_end0
      exact ⟨rfl, HEND.out _ (by simp [hasStep])⟩
theorem eg_has : ∀ args w, (callFunc 93 args).run Tryd.prog w = .ok (.enter 93 args) w := enters_of Tryd.func93 (by kernel_rfl) rfl
def hasT (v k n : Int) (ps : Fo) : Bool := foldF (hasStep v) (hasStep v false k n ps) ps
set_option maxHeartbeats 1000000 in
theorem has_any (k n v : Int) (ps : Fo) (w : World) (o : Option Addr) (len cap : Nat) (hs : Slc w o len ps) (hsz : ps.size ≤ 1000000) :
    Calls Tryd.prog 50 #[tyv k n o len cap, .int .i64 v] w fun e w' => e = .returned (.bool (hasT v k n ps)) ∧ Quiet0 w w' := by
  obtain ⟨c, hc⟩ : ∃ c, c = w.heap.size + 1 + 1 := ⟨_, rfl⟩
  obtain ⟨d, hd⟩ : ∃ d, d = w.heap.size + 1 := ⟨_, rfl⟩
  have HE := Lib.hid (each_any eg_has (has1_any w c d v (by omega) (by omega)) k n ps 0 false (((w.alloc (.cells #[.int .i64 k, .int .i64 n, .slice o len cap] 24)).alloc (.cells #[.int .i64 v] 3)).alloc (.cells #[.bool false] 4)) o len cap ⟨by
      have := Box1.new ((w.alloc (.cells #[.int .i64 k, .int .i64 n, .slice o len cap] 24)).alloc (.cells #[.int .i64 v] 3)) (.bool false) 4
      have e : ((w.alloc (.cells #[.int .i64 k, .int .i64 n, .slice o len cap] 24)).alloc (.cells #[.int .i64 v] 3)).heap.size = c := by rw [hc]; simp
      rw [e] at this; exact this, by
      have := (Box1.new (w.alloc (.cells #[.int .i64 k, .int .i64 n, .slice o len cap] 24)) (.int .i64 v) 3).alloc (.cells #[.bool false] 4)
      have e : (w.alloc (.cells #[.int .i64 k, .int .i64 n, .slice o len cap] 24)).heap.size = d := by rw [hd]; simp
      rw [e] at this; exact this, ((Quiet0.alloc _ _).trans (Quiet0.alloc _ _)).trans (Quiet0.alloc _ _)⟩ hs (by omega) trivial (allF_true (fun _ => trivial) ps))
  rw [Nat.zero_add] at HE
  rw [hc, hd] at HE
  unfold hasT
  clear hs hc hd
  generalize foldF (hasStep v) (hasStep v false k n ps) ps = r at *
  unfold tyv at *
  go_enter Tryd.func50, Tryd.ntmps50
  go_wp2_with fail
  refine HE.out.mono ?_; rintro e w1 ⟨rfl, hj⟩
  have c1 := cell_of_one hj.1
  have HJ := Lib.hid hj
  clear hj
  go_wp2_with fail
  go_ret
  exact ⟨rfl, HJ.out.2.2⟩

/-- types.Depth -/
def TDepth (k n : Int) (ps : Fo) : Prop := ∀ (w : World) (o : Option Addr) (len cap : Nat), Slc w o len ps → ps.size ≤ 1000000 →
  Calls Tryd.prog 47 #[tyv k n o len cap] w fun e w' => e = .returned (.int .i64 ((ps.depth + 1 : Nat) : Int)) ∧ Quiet0 w w'
set_option maxHeartbeats 1000000 in
theorem depth_any (k n : Int) (ps : Fo) : TDepth k n ps := by
  refine Fo.ind' (T := TDepth) ?_ k n ps
  intro k n ps ih w o len cap hs hsz
  have HS := Lib.hid hs
  have IH := Lib.hid ih
  have hl := hs.1
  have hll := Fo.length_le ps
  rw [← hl] at hll
  have HL := Lib.hid hl
  have hdp := Fo.depth_le ps
  clear hs ih hl
  unfold tyv
  go_enter Tryd.func47, Tryd.ntmps47
  go_wp2_with fail
  obtain ⟨W0, hW0⟩ : ∃ W0, W0 = w.alloc (.cells #[.int .i64 k, .int .i64 n, .slice o len cap] 24) := ⟨_, rfl⟩
  have HB0 : Hid (∀ W, Quiet0 W0 W → W.cell? ⟨w.heap.size, 0, none⟩ = some (.int .i64 k)) := by
    intro W hq; rw [hW0] at hq; exact (box_cells w k n o len cap _ W hq).1
  have HB1 : Hid (∀ W, Quiet0 W0 W → W.cell? ⟨w.heap.size, 1, none⟩ = some (.int .i64 n)) := by
    intro W hq; rw [hW0] at hq; exact (box_cells w k n o len cap _ W hq).2.1
  have HB : Hid (∀ W, Quiet0 W0 W → W.cell? ⟨w.heap.size, 2, none⟩ = some (.slice o len cap)) := by
    intro W hq; rw [hW0] at hq; exact (box_cells w k n o len cap _ W hq).2.2
  have HQ0 : Hid (Quiet0 w W0) := by rw [hW0]; exact Quiet0.alloc _ _
  change Code.wp _ _ _ _ (w.alloc (.cells #[.int .i64 k, .int .i64 n, .slice o len cap] 24))
  rw [← hW0]
  clear hW0
  generalize w.heap.size = nb at *
  go_loopw [3, 9] (fun s t wr => ∃ (i m : Nat), t = .int .i64 i ∧ s = .int .i64 m ∧ i ≤ len ∧ max m (ps.drop i).depth = ps.depth ∧ Quiet0 W0 wr) (fun _ t _ => len - (intOf t).toNat)
  case atStart => exact ⟨0, 0, rfl, rfl, Nat.zero_le _, by rw [Fo.drop_zero]; omega, Quiet0.refl _⟩
  case round =>
    obtain ⟨i, m, rfl, rfl, hi, hm, hq⟩ := hrel
    have HM := Lib.hid hm
    have HQ := Lib.hid hq
    have hmb : m ≤ 1000001 := by omega
    clear hm hq
    by_cases hlt : i < len
    · have hlt' : (i : Int) < len := by omega
      obtain ⟨b, off, k', n', qs, o', len', cap', rfl, hd, hg, e0, e1, e2, hs'⟩ := (HS.out.stay (HQ0.out.trans HQ.out)).nth hlt
      have hsq := Fo.size_get ps i k' n' qs hg
      have hqd := Fo.depth_le qs
      have hqs : qs.depth ≤ 1000001 := by omega
      have HC := Lib.hid (IH.out i k' n' qs hg (wr.alloc (.cells #[.int .i64 k', .int .i64 n', .slice o' len' cap'] 24)) o' len' cap' (hs'.stay (Quiet0.alloc _ _)) (by omega))
      have HD : Hid (max (max m (qs.depth + 1)) (ps.drop (i + 1)).depth = ps.depth) := by
        have := HM.out; rw [hd] at this; simp only [Fo.depth] at this; show _ = _; omega
      unfold tyv at HC
      clear hd hg hs' hsq hqd
      go_wp2_with fail
      refine HC.out.mono ?_; rintro e w1 ⟨rfl, hq1⟩
      have HQ1 := Lib.hid ((HQ.out.trans (Quiet0.alloc _ _)).trans hq1)
      clear hq1
      by_cases hgt : m < qs.depth + 1
      · have hgt' : (m : Int) < (qs.depth : Int) + 1 := by omega
        go_wp2_with fail
        go_roundw
        case rel => exact ⟨i + 1, qs.depth + 1, by go_num, by first | rfl | go_num | (simp; omega), by omega, by have := HD.out; omega, HQ1.out⟩
        case measure => simp [intOf]; omega
      · have hgt' : ¬ (m : Int) < (qs.depth : Int) + 1 := by omega
        go_wp2_with fail
        go_roundw
        case rel => exact ⟨i + 1, m, by go_num, by first | rfl | go_num | (simp; omega), by omega, by have := HD.out; omega, HQ1.out⟩
        case measure => simp [intOf]; omega
    · have hlt' : ¬ (i : Int) < len := by omega
      go_wp2_with fail
      go_ret
      refine ⟨ret_int (a := ((m : Nat) : Int) + 1) ?_, HQ0.out.trans HQ.out⟩
      have := HM.out
      rw [Fo.drop_end ps i (by have := HL.out; omega)] at this
      simp only [Fo.depth] at this
      omega
end Go.Proofs.YtggidhgifaekbaaDoor
