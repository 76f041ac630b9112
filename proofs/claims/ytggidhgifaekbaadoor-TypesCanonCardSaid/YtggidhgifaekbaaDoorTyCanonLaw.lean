/-
  The law TypesCanon: it returns true. Conditions: the type lies in memory; the table of powers of ten holds what its initialiser lays.
-/
import Derived.Test.YtggidhgifaekbaaDoorTyCanonPlain
import Derived.Test.YtggidhgifaekbaaDoorTyPrintLaw
namespace Go.Proofs.YtggidhgifaekbaaDoor
open Go.RowKit Go.Maps

theorem wf_u16 {n : Int} (h : (Lit.int .u16 n).wf = true) : 0 ≤ n ∧ n ≤ 65535 := by
  simp only [Lit.wf, IntKind.min, IntKind.max, IntKind.signed, IntKind.bits, Bool.and_eq_true, decide_eq_true_eq, if_true, Bool.false_eq_true, if_false] at h
  omega
theorem right_all : ∀ f : Fo, f.right = true → allF (fun n => 0 ≤ n ∧ n < 1073741824) f
  | .nil, _ => trivial
  | .cons k n ps r, h => by
    simp [Fo.right] at h
    obtain ⟨⟨hp, h1⟩, h2⟩ := h
    refine ⟨?_, right_all ps h1, right_all r h2⟩
    rcases is_plain hp with h | h | h | h | h <;> omega
theorem right_shift {top : Int} (h0 : 0 ≤ top) : ∀ f : Fo, f.right = true → varsAll (fun v => v ≤ top) f → allF (shiftG (top + 1)) f
  | .nil, _, _ => trivial
  | .cons k n ps r, h, hv => by
    simp [Fo.right] at h
    obtain ⟨⟨hp, h1⟩, h2⟩ := h
    refine ⟨?_, right_shift h0 ps h1 hv.2.1, right_shift h0 r h2 hv.2.2⟩
    have hh := hv.1
    unfold shiftG
    rcases is_plain hp with h | h | h | h | h
    · have := hh h.1; omega
    · omega
    · omega
    · omega
    · omega
theorem allF_mono {G H : Int → Prop} (h : ∀ n, G n → H n) : ∀ f : Fo, allF G f → allF H f
  | .nil, _ => trivial
  | .cons _ n ps r, hf => ⟨h n hf.1, allF_mono h ps hf.2.1, allF_mono h r hf.2.2⟩
theorem allF_change {G H : Int → Prop} {p : Int → Int} (h : ∀ n, G n → H n ∧ H (p n)) : ∀ f : Fo, allF G f → allF H (f.change p)
  | .nil, _ => trivial
  | .cons k n ps r, hf => by
    refine ⟨?_, allF_change h ps hf.2.1, allF_change h r hf.2.2⟩
    show H (if k == 1 then p n else n)
    split
    · exact (h n hf.1).2
    · exact (h n hf.1).1
theorem place_range (l : List Int) : ∀ (m : Nat) (v : Int), 0 ≤ placeN l m v ∧ placeN l m v ≤ m
  | 0, v => ⟨Int.le_refl _, Int.le_refl _⟩
  | m + 1, v => by
    have := place_range l m v
    show 0 ≤ (if l[m]? = some v then (m : Int) else placeN l m v) ∧ (if l[m]? = some v then (m : Int) else placeN l m v) ≤ ((m + 1 : Nat) : Int)
    split <;> omega
/-- Canon of Canon, in one type -/
theorem canon_twice (k n : Int) (ps : Fo) : newN (canonP k (newN (canonP k n ps) k n) (ps.change (canonP k n ps))) k (newN (canonP k n ps) k n) = newN (canonP k n ps) k n ∧
    (ps.change (canonP k n ps)).change (canonP k (newN (canonP k n ps) k n) (ps.change (canonP k n ps))) = ps.change (canonP k n ps) := by
  have h := canon_change (.cons k n ps .nil) (canonP k n ps) (fun a b ha hb he => place_inj _ (vars_nodup _ [] List.nodup_nil) a b ha hb he)
  have h' : Fo.cons k (newN (canonP k (newN (canonP k n ps) k n) (ps.change (canonP k n ps))) k (newN (canonP k n ps) k n)) ((ps.change (canonP k n ps)).change (canonP k (newN (canonP k n ps) k n) (ps.change (canonP k n ps)))) .nil = Fo.cons k (newN (canonP k n ps) k n) (ps.change (canonP k n ps)) .nil := h
  injection h' with h1 h2 h3 h4
  exact ⟨h2, h3⟩
theorem canon_shift (k n bz top : Int) (ps : Fo) (hv : ∀ v ∈ Fo.vars [] (.cons k n ps .nil), v ≤ top) (ht : top + bz < 1073741824) :
    newN (canonP k (newN (shiftP bz) k n) (ps.change (shiftP bz))) k (newN (shiftP bz) k n) = newN (canonP k n ps) k n ∧
    (ps.change (shiftP bz)).change (canonP k (newN (shiftP bz) k n) (ps.change (shiftP bz))) = ps.change (canonP k n ps) := by
  have h := canon_change (.cons k n ps .nil) (shiftP bz) (fun a b ha hb he => by
    have h1 := hv a ha
    have h2 := hv b hb
    unfold shiftP at he
    rw [if_pos (by omega), if_pos (by omega)] at he
    omega)
  have h' : Fo.cons k (newN (canonP k (newN (shiftP bz) k n) (ps.change (shiftP bz))) k (newN (shiftP bz) k n)) ((ps.change (shiftP bz)).change (canonP k (newN (shiftP bz) k n) (ps.change (shiftP bz)))) .nil = Fo.cons k (newN (canonP k n ps) k n) (ps.change (canonP k n ps)) .nil := h
  injection h' with h1 h2 h3 h4
  exact ⟨h2, h3⟩
/-- Canon of a type in memory, told by what it comes to -/
theorem canon_of (k n : Int) (ps : Fo) (W : World) (o : Option Addr) (len cap : Nat) (hs : Slc W o len ps) (hn : wfI n) (hw : wfF ps) (hsz : ps.size ≤ 100000) (nc : Int) (pc : Fo) (h1 : newN (canonP k n ps) k n = nc) (h2 : ps.change (canonP k n ps) = pc) :
    Calls Tryd.prog 35 #[.agg #[.int .i64 k, .int .i64 n, .slice o len cap]] W fun e w' => ∃ o' cap', e = .returned (.agg #[.int .i64 k, .int .i64 nc, .slice o' len cap']) ∧ Slc w' o' len pc ∧ Quiet0 W w' := by
  refine (canon_any k n ps W o len cap hs hn hw hsz).mono ?_
  rintro e w' ⟨o', c', rfl, h3, h4⟩
  rw [h1]
  rw [h2] at h3
  exact ⟨o', c', rfl, h3.slc, h4⟩
set_option maxHeartbeats 4000000 in
set_option maxRecDepth 100000 in
theorem typesCanon_all (k n bz : Int) (ps : Fo) (w : World) (o : Option Addr) (len cap : Nat) (hs : Slc w o len ps) (ht : Pow10 w) (hb0 : 0 ≤ bz) (hb1 : bz ≤ 65535) :
    Calls Tryd.prog 7 #[tyv k n o len cap, .int .u16 bz] w fun e w' => e = .returned (.bool true) ∧ Quiet0 w w' := by
  have HA : Hid (∀ W, Quiet0 w W → Calls Tryd.prog 15 #[] W fun e w' => e = .returned (.bool true) ∧ Quiet0 W w') := fun W hq => awake_any W (ht.stay hq)
  have HG : Hid (∀ W, Quiet0 w W → Calls Tryd.prog 14 #[.agg #[.int .i64 k, .int .i64 n, .slice o len cap]] W fun e w' => e = .returned (.bool (greatF ps)) ∧ Quiet0 W w') := fun W hq => great_any k n ps W o len cap (hs.stay hq)
  have HR : Hid (∀ W, Quiet0 w W → Calls Tryd.prog 16 #[.agg #[.int .i64 k, .int .i64 n, .slice o len cap]] W fun e w' => e = .returned (.bool (rightT k n ps)) ∧ Quiet0 W w') := fun W hq => refRight_any k n ps W o len cap (hs.stay hq)
  have HBX : Hid (∀ W, Quiet0 (w.alloc (.cells #[.int .i64 k, .int .i64 n, .slice o len cap] 24)) W → W.cell? ⟨w.heap.size, 0, none⟩ = some (.int .i64 k) ∧ W.cell? ⟨w.heap.size, 1, none⟩ = some (.int .i64 n) ∧ W.cell? ⟨w.heap.size, 2, none⟩ = some (.slice o len cap)) := fun W h => box_cells w k n o len cap 24 W h
  obtain ⟨W0, hW0⟩ : ∃ W0, W0 = w.alloc (.cells #[.int .i64 k, .int .i64 n, .slice o len cap] 24) := ⟨_, rfl⟩
  have HQ0 : Hid (Quiet0 w W0) := by rw [hW0]; exact Quiet0.alloc _ _
  rw [← hW0] at HBX
  cases hg : greatF ps
  · have hsz : ps.size ≤ 1000 := by have := great_size hg; omega
    rw [hg] at HG
    cases hr : rightT k n ps
    · rw [hr] at HR
      clear hs ht hsz
      unfold tyv
      go_enter Tryd.func7, Tryd.ntmps7
      generalize hB : w.heap.size = B at *
      go_wp2_with fail
      rw [← hW0]
      obtain ⟨a0, a1, a2⟩ := HBX.out W0 (Quiet0.refl _)
      go_wp2_with fail
      refine (HG.out _ HQ0.out).mono ?_; rintro e w1 ⟨rfl, hq1⟩
      have HQ1 := Lib.hid hq1
      obtain ⟨b0, b1, b2⟩ := HBX.out w1 hq1
      clear a0 a1 a2 hq1
      go_wp2_with fail
      refine (HR.out _ (HQ0.out.trans HQ1.out)).mono ?_; rintro e w2 ⟨rfl, hq2⟩
      have HQ2 := Lib.hid (HQ1.out.trans hq2)
      clear b0 b1 b2 hq2
      go_wp2_with fail
      refine (HA.out _ (HQ0.out.trans HQ2.out)).mono ?_; rintro e w4 ⟨rfl, hq4⟩
      go_wp2_with fail
      go_ret
      exact ⟨rfl, (HQ0.out.trans HQ2.out).trans hq4⟩
    · rw [hr] at HR
      have hp : (Fo.cons k n ps .nil).right = true := by simpa [Fo.right, rightT] using hr
      have hal := right_all _ hp
      have hwn : wfI n := wfI_of (by have := hal.1; omega) (by have := hal.1; omega)
      have hwp : wfF ps := allF_mono (fun m h => wfI_of (by omega) (by omega)) ps hal.2.1
      have HP := Lib.hid hp
      have HAL := Lib.hid hal
      have HCN := Lib.hid (fun (W : World) (hq : Quiet0 w W) => canon_of k n ps W o len cap (hs.stay hq) hwn hwp (by omega) _ _ rfl rfl)
      have HVA := Lib.hid (fun (W : World) (b : Nat) (h : Slc W (some ⟨b, 0, none⟩) 1 (.cons k n ps .nil)) => vars_any (.cons k n ps .nil) W (some ⟨b, 0, none⟩) 1 1 h ⟨hwn, hwp, trivial⟩ (by simp only [Fo.size]; omega))
      have HT := Lib.hid ht
      have HS := Lib.hid hs
      have HC2 := Lib.hid (canon_twice k n ps)
      have HCS := Lib.hid (fun (top : Int) => canon_shift k n bz top ps)
      have HVS := Lib.hid ((vars_sub (.cons k n ps .nil) []).2)
      have HPC : Hid (wfI (newN (canonP k n ps) k n) ∧ wfF (ps.change (canonP k n ps))) := by
        have hll := vars_len (.cons k n ps .nil) []
        simp only [Fo.size, List.length_nil] at hll
        have h := allF_change (G := fun n => 0 ≤ n ∧ n < 1073741824) (H := wfI) (p := canonP k n ps) (fun m hm => ⟨wfI_of (by omega) (by omega), by
          have := place_range (Fo.vars [] (.cons k n ps .nil)) (Fo.vars [] (.cons k n ps .nil)).length m
          exact wfI_of (by unfold canonP; omega) (by unfold canonP; omega)⟩) (.cons k n ps .nil) hal
        exact ⟨h.1, h.2.1⟩
      have hszc : (ps.change (canonP k n ps)).size ≤ 1000 := by rw [Fo.change_size]; exact hsz
      have hll : (Fo.vars [] (.cons k n ps .nil)).length ≤ 100001 := by have := vars_len (.cons k n ps .nil) []; simp only [Fo.size, List.length_nil] at this; omega
      have HVR : Hid (∀ v ∈ Fo.vars [] (.cons k n ps .nil), 0 ≤ v ∧ v < 1073741824) := vars_all _ [] (fun v h => by cases h) hal
      generalize hnc : newN (canonP k n ps) k n = nc at *
      generalize hpc : ps.change (canonP k n ps) = pc at *
      have HNC := Lib.hid hnc
      have HPCC := Lib.hid hpc
      clear hnc hpc
      generalize hL : Fo.vars [] (.cons k n ps .nil) = L at *
      clear hs ht hp hal hwn hwp
      unfold tyv
      go_enter Tryd.func7, Tryd.ntmps7
      generalize hB : w.heap.size = B at *
      go_wp2_with fail
      rw [← hW0]
      obtain ⟨a0, a1, a2⟩ := HBX.out W0 (Quiet0.refl _)
      go_wp2_with fail
      refine (HG.out _ HQ0.out).mono ?_; rintro e w1 ⟨rfl, hq1⟩
      have HQ1 := Lib.hid hq1
      obtain ⟨b0, b1, b2⟩ := HBX.out w1 hq1
      clear a0 a1 a2 hq1
      go_wp2_with fail
      refine (HR.out _ (HQ0.out.trans HQ1.out)).mono ?_; rintro e w2 ⟨rfl, hq2⟩
      have HQ2 := Lib.hid (HQ1.out.trans hq2)
      obtain ⟨a0, a1, a2⟩ := HBX.out w2 HQ2.out
      clear b0 b1 b2 hq2
      go_wp2_with fail
      refine (HCN.out _ (HQ0.out.trans HQ2.out)).mono ?_; rintro e w3 ⟨oc, cpc, rfl, hsc, hq3⟩
      have HQ3 := Lib.hid (HQ2.out.trans hq3)
      have HSC3 := Lib.hid hsc
      clear a0 a1 a2 hq3 hsc
      obtain ⟨W5, hW5⟩ : ∃ W5, W5 = w3.alloc (.cells #[.int .i64 k, .int .i64 nc, .slice oc len cpc] 24) := ⟨_, rfl⟩
      have HQ5 : Hid (Quiet0 W0 W5) := by rw [hW5]; exact HQ3.out.trans (Quiet0.alloc _ _)
      have HB5 : Hid (W5.heap[w3.heap.size]? = some (.cells #[.int .i64 k, .int .i64 nc, .slice oc len cpc] 24 (0, 0))) := by rw [hW5]; exact heap_alloc_new _ _
      have HSC5 : Hid (Slc W5 oc len pc) := by rw [hW5]; exact HSC3.out.stay (Quiet0.alloc _ _)
      obtain ⟨a0, a1, a2⟩ := HBX.out W5 HQ5.out
      have HSL : Hid (Slc (W5.alloc (.cells #[.int .i64 k, .int .i64 n, .slice o len cap] 24)) (some ⟨W5.heap.size, 0, none⟩) 1 (.cons k n ps .nil)) := by
        have hb := heap_alloc_new W5 (.cells #[.int .i64 k, .int .i64 n, .slice o len cap] 24)
        have h1 := HS.out.stay ((HQ0.out.trans HQ5.out).trans (Quiet0.alloc W5 (.cells #[.int .i64 k, .int .i64 n, .slice o len cap] 24)))
        exact ⟨rfl, by decide, fun _ => ⟨_, 0, rfl, by rw [cell_of_row _ _ _ _ _ (0, 0) hb]; rfl, by rw [cell_of_row _ _ _ _ _ (0, 0) hb]; rfl, ⟨o, len, cap, by rw [cell_of_row _ _ _ _ _ (0, 0) hb]; rfl, h1.1, h1.2.1, h1.2.2⟩, trivial⟩⟩
      generalize hB5 : w3.heap.size = B5 at *
      go_upto_region 4 with fail
      rw [← hW5]
      clear hW5
      go_wp2_with fail
      refine (HVA.out _ _ HSL.out).mono ?_; rintro e w7 ⟨vo, rfl, hrow, hq7⟩
      obtain ⟨va, vc, rfl, hlc, hge, hown⟩ := hrow.at
      have HOWN := Lib.hid hown
      have HQ7 := Lib.hid (HQ5.out.trans ((Quiet0.alloc _ _).trans hq7))
      have HB57 := Lib.hid (box_after HB5.out ((Quiet0.alloc _ _).trans hq7))
      have HSC7 := Lib.hid (HSC5.out.stay ((Quiet0.alloc _ _).trans hq7))
      clear hrow hown hge hq7 a0 a1 a2
      go_wp2_with fail
      go_loopw [7, 8] (fun s t wr => ∃ (i : Nat) (top : Int), s = .int .i64 top ∧ t = .int .i64 i ∧ i ≤ L.length ∧ 0 ≤ top ∧ top < 1073741824 ∧ (∀ v ∈ L.take i, v ≤ top) ∧ w7 = wr) (fun _ t _ => L.length - (intOf t).toNat)
      case atStart => exact ⟨0, 0, rfl, rfl, Nat.zero_le _, by omega, by omega, (fun v h => by simp at h), rfl⟩
      case round =>
        obtain ⟨i, top, rfl, rfl, hi, ht0, ht1, htl, rfl⟩ := hrel
        have HTL := Lib.hid htl
        clear htl
        by_cases hlt : i < L.length
        · have hlt' : (i : Int) < L.length := by omega
          obtain ⟨x, hx⟩ : ∃ x, L[i]? = some x := ⟨_, List.getElem?_eq_getElem hlt⟩
          obtain ⟨g, rfl, hc⟩ := row_int HOWN.out hx
          have hxr := HVR.out x (List.mem_of_getElem? hx)
          have HX := Lib.hid hx
          clear hx
          have HNX : Hid (∀ top', top ≤ top' → x ≤ top' → ∀ v ∈ L.take (i + 1), v ≤ top') := by
            intro top' h1 h2 v hv
            rw [List.take_add_one, HX.out] at hv
            rcases List.mem_append.1 hv with h | h
            · exact Int.le_trans (HTL.out v h) h1
            · have : v = x := by simpa using h
              rw [this]; exact h2
          by_cases hgt : top < x
          · go_wp2_with fail
            go_roundw
            case rel => exact ⟨i + 1, x, by first | rfl | (simp; omega), by go_num, by omega, by omega, by omega, HNX.out x (by omega) (Int.le_refl _), by first | rfl | trivial⟩
            case measure => simp [intOf]; omega
          · go_wp2_with fail
            go_roundw
            case rel => exact ⟨i + 1, top, by first | rfl | (simp; omega), by go_num, by omega, by omega, by omega, HNX.out top (Int.le_refl _) (by omega), by first | rfl | trivial⟩
            case measure => simp [intOf]; omega
        · have hlt' : ¬ (i : Int) < L.length := by omega
          have HTA : Hid (∀ v ∈ L, v ≤ top) := by
            intro v hv
            exact HTL.out v (by rw [List.take_of_length_le (by omega)]; exact hv)
          have hsg : allF (shiftG (top + 1)) (.cons k n ps .nil) := right_shift ht0 _ HP.out (varsAll_mono (fun v hv => HTA.out v hv) _ HVS.out)
          have HSH := Lib.hid (fun (W : World) (hq : Quiet0 w W) => shift_any k n (top + 1) bz ps W o len cap (HS.out.stay hq) hsg.1 hsg.2.1 hb0 (by omega) (by omega))
          have HSHW : Hid (wfI (newN (shiftP bz) k n) ∧ wfF (ps.change (shiftP bz))) := by
            have h := allF_change (G := fun n => 0 ≤ n ∧ n < 1073741824) (H := wfI) (p := shiftP bz) (fun m hm => ⟨wfI_of (by omega) (by omega), by unfold shiftP; split <;> exact wfI_of (by omega) (by omega)⟩) (.cons k n ps .nil) HAL.out
            exact ⟨h.1, h.2.1⟩
          have hszs : (ps.change (shiftP bz)).size ≤ 1000 := by rw [Fo.change_size]; exact hsz
          have HCS2 := Lib.hid (HCS.out top)
          obtain ⟨ns, hns⟩ : ∃ ns, ns = newN (shiftP bz) k n := ⟨_, rfl⟩
          obtain ⟨qs, hqs⟩ : ∃ qs, qs = ps.change (shiftP bz) := ⟨_, rfl⟩
          rw [← hns, ← hqs] at HSHW HCS2
          rw [← hqs] at hszs
          have HSH2 : Hid (∀ W, Quiet0 w W → Calls Tryd.prog 37 #[.agg #[.int .i64 k, .int .i64 n, .slice o len cap], .int .i64 0, .int .i64 (top + 1), .int .i64 bz] W fun e w' => ∃ o' cap', e = .returned (.agg #[.int .i64 k, .int .i64 ns, .slice o' len cap']) ∧ Slc w' o' len qs ∧ Quiet0 W w') := by
            intro W hq
            refine (HSH.out W hq).mono ?_
            rintro e w' ⟨o', c', rfl, h1, h2⟩
            rw [← hqs] at h1
            rw [← hns]
            exact ⟨o', c', rfl, h1.slc, h2⟩
          obtain ⟨a0, a1, a2⟩ := HBX.out _ HQ7.out
          have hwt : IntKind.i64.wrap (top + 1) = top + 1 := IntWalk.i64_in _ (by omega)
          have hwb : IntKind.i64.wrap bz = bz := IntWalk.i64_in _ (by omega)
          have hws : IntKind.i64.wrap (top + bz) = top + bz := IntWalk.i64_in _ (by omega)
          clear hsg hns hqs HSH HCS
          go_wp2_with fail
          refine (HSH2.out _ (HQ0.out.trans HQ7.out)).mono ?_; rintro e w8 ⟨os, cps, rfl, hss, hq8⟩
          have HQ8 := Lib.hid (HQ7.out.trans hq8)
          have HB58 := Lib.hid (box_after HB57.out hq8)
          have HSC8 := Lib.hid (HSC7.out.stay hq8)
          have HSS := Lib.hid hss
          obtain ⟨b0, b1, b2⟩ := HBX.out _ (HQ8.out.trans (Quiet0.alloc w8 (.cells #[.int .i64 k, .int .i64 ns, .slice os len cps] 24)))
          clear a0 a1 a2 hq8 hss
          have HEND : Hid (∀ (no : Int) (oo : Option Addr) (cpo : Nat) (po : Fo), Slc w8 oo len po → wfI no → wfF po → po.size ≤ 1000 → newN (canonP k no po) k no = nc → po.change (canonP k no po) = pc →
              Quiet0 W0 (w8.alloc (.cells #[.int .i64 k, .int .i64 no, .slice oo len cpo] 24)) ∧
              (∀ w', Quiet0 (w8.alloc (.cells #[.int .i64 k, .int .i64 no, .slice oo len cpo] 24)) w' → (w'.cell? ⟨B5, 0, none⟩ = some (.int .i64 k) ∧ w'.cell? ⟨B5, 1, none⟩ = some (.int .i64 nc) ∧ w'.cell? ⟨B5, 2, none⟩ = some (.slice oc len cpc)) ∧ w'.cell? ⟨w8.heap.size, 0, none⟩ = some (.int .i64 k) ∧ w'.cell? ⟨w8.heap.size, 1, none⟩ = some (.int .i64 no) ∧ w'.cell? ⟨w8.heap.size, 2, none⟩ = some (.slice oo len cpo)) ∧
              (∀ W, Quiet0 (w8.alloc (.cells #[.int .i64 k, .int .i64 no, .slice oo len cpo] 24)) W → Calls Tryd.prog 35 #[.agg #[.int .i64 k, .int .i64 no, .slice oo len cpo]] W fun e w' => ∃ o' cap', e = .returned (.agg #[.int .i64 k, .int .i64 nc, .slice o' len cap']) ∧ Slc w' o' len pc ∧ Quiet0 W w')) := by
            intro no oo cpo po h1 h2 h3 h4 h5 h6
            have hq9 := Quiet0.alloc w8 (.cells #[.int .i64 k, .int .i64 no, .slice oo len cpo] 24)
            have hnb := heap_alloc_new w8 (.cells #[.int .i64 k, .int .i64 no, .slice oo len cpo] 24)
            refine ⟨HQ8.out.trans hq9, fun W hq => ?_, fun W hq => canon_of k no po W oo len cpo (h1.stay (hq9.trans hq)) h2 h3 (by omega) nc pc h5 h6⟩
            obtain ⟨z0, z1, z2, _⟩ := box_cells3 (box_after HB58.out (hq9.trans hq))
            obtain ⟨y0, y1, y2, _⟩ := box_cells3 (box_after hnb hq)
            exact ⟨⟨z0, z1, z2⟩, y0, y1, y2⟩
          by_cases hov : 1073741824 ≤ top + bz
          · obtain ⟨e1, e2, e3⟩ := HEND.out n o cap ps (HS.out.stay (HQ0.out.trans HQ8.out)) (wfI_of (by have := HAL.out.1; omega) (by have := HAL.out.1; omega)) (allF_mono (fun m h => wfI_of (by omega) (by omega)) ps HAL.out.2.1) hsz HNC.out HPCC.out
            go_upto_region 13 with fail
            obtain ⟨WF, hWF⟩ : ∃ WF, WF = (w8.alloc (.cells #[.int .i64 k, .int .i64 n, .slice o len cap] 24)) := ⟨_, rfl⟩
            change Code.wp _ _ _ _ (w8.alloc (.cells #[.int .i64 k, .int .i64 n, .slice o len cap] 24))
            rw [← hWF] at e1 e2 e3 ⊢
            have HQF := Lib.hid (HQ0.out.trans e1)
            have HBC := Lib.hid e2
            have HCO := Lib.hid e3
            have hq98 : Quiet0 w8 WF := by rw [hWF]; exact Quiet0.alloc _ _
            have HSC : Hid (∀ W, Quiet0 WF W → Slc W oc len pc) := fun W hq => HSC8.out.stay (hq98.trans hq)
            have HCC : Hid (∀ W, Quiet0 WF W → Calls Tryd.prog 35 #[.agg #[.int .i64 k, .int .i64 nc, .slice oc len cpc]] W fun e w' => ∃ o' cap', e = .returned (.agg #[.int .i64 k, .int .i64 nc, .slice o' len cap']) ∧ Slc w' o' len pc ∧ Quiet0 W w') := fun W hq => canon_of k nc pc W oc len cpc (HSC.out W hq) HPC.out.1 HPC.out.2 (by omega) nc pc HC2.out.1 HC2.out.2
            have HSM : Hid (∀ W o' cap', Quiet0 WF W → Slc W o' len pc → Calls Tryd.prog 19 #[.agg #[.int .i64 k, .int .i64 nc, .slice o' len cap'], .agg #[.int .i64 k, .int .i64 nc, .slice oc len cpc]] W fun e w' => e = .returned (.bool true) ∧ Quiet0 W w') := by
              intro W o' cap' hq h1
              have h := refSame_any k nc pc k nc pc W o' len cap' oc len cpc h1 (HSC.out W hq)
              have e : sameT k nc pc k nc pc = true := by simp [sameT, Fo.same_refl]
              rw [e] at h; exact h
            obtain ⟨s, hs'⟩ : ∃ s, s = tb (printT k nc pc) := ⟨_, rfl⟩
            have HPO : Hid (∀ W o' cap', Quiet0 WF W → Slc W o' len pc → Calls Tryd.prog 17 #[.agg #[.int .i64 k, .int .i64 nc, .slice o' len cap']] W fun e w' => e = .returned (.string s) ∧ Quiet0 W w') := by
              intro W o' cap' hq h1
              rw [hs']
              exact print_any k nc pc W o' len cap' h1 hszc (HT.out.stay (HQF.out.trans hq))
            have HAW : Hid (∀ W, Quiet0 WF W → Calls Tryd.prog 15 #[] W fun e w' => e = .returned (.bool true) ∧ Quiet0 W w') := fun W hq => HA.out W (HQF.out.trans hq)
            have hqc := Quiet0.refl WF
            obtain ⟨⟨z0, z1, z2⟩, y0, y1, y2⟩ := e2 WF (Quiet0.refl _)
            clear e1 e2 e3 hWF hs' hq98 b0 b1 b2
            generalize hB9 : w8.heap.size = B9 at *
            go_region_held3 (fun w' => (w'.cell? ⟨B5, 0, none⟩ = some (.int .i64 k) ∧ w'.cell? ⟨B5, 1, none⟩ = some (.int .i64 nc) ∧ w'.cell? ⟨B5, 2, none⟩ = some (.slice oc len cpc)) ∧ w'.cell? ⟨B9, 0, none⟩ = some (.int .i64 k) ∧ w'.cell? ⟨B9, 1, none⟩ = some (.int .i64 n) ∧ w'.cell? ⟨B9, 2, none⟩ = some (.slice o len cap))
      (((refine HBC.out _ ?_); (repeat (first | with_reducible exact hqc | with_reducible exact Quiet0.refl _ | with_reducible refine Quiet0.trans ?_ (Quiet0.alloc _ _) | with_reducible refine Quiet0.trans ?_ (Quiet0.drew _) | fail))))
      (first
        | (go_at_call 35; (with_reducible refine Calls.mono (HCC.out _ ?hq) ?_); (case hq => (repeat (first | with_reducible exact hqc | with_reducible exact Quiet0.refl _ | with_reducible refine Quiet0.trans ?_ (Quiet0.alloc _ _) | with_reducible refine Quiet0.trans ?_ (Quiet0.drew _) | fail))); rintro e wx ⟨o1, cp1, rfl, hs1, hqx⟩; refine with_q (w0 := WF) ?hq2 hqx ?_; (case hq2 => (repeat (first | with_reducible exact hqc | with_reducible exact Quiet0.refl _ | with_reducible refine Quiet0.trans ?_ (Quiet0.alloc _ _) | with_reducible refine Quiet0.trans ?_ (Quiet0.drew _) | fail))); intro hqc)
        | (go_at_call 35; (with_reducible refine Calls.mono (HCO.out _ ?hq) ?_); (case hq => (repeat (first | with_reducible exact hqc | with_reducible exact Quiet0.refl _ | with_reducible refine Quiet0.trans ?_ (Quiet0.alloc _ _) | with_reducible refine Quiet0.trans ?_ (Quiet0.drew _) | fail))); rintro e wx ⟨o2, cp2, rfl, hs2, hqx⟩; refine with_q (w0 := WF) ?hq2 hqx ?_; (case hq2 => (repeat (first | with_reducible exact hqc | with_reducible exact Quiet0.refl _ | with_reducible refine Quiet0.trans ?_ (Quiet0.alloc _ _) | with_reducible refine Quiet0.trans ?_ (Quiet0.drew _) | fail))); intro hqc)
        | (go_at_call 19; (with_reducible refine Calls.mono (HSM.out _ _ _ ?hq ?hsl) ?_); (case hq => (repeat (first | with_reducible exact hqc | with_reducible exact Quiet0.refl _ | with_reducible refine Quiet0.trans ?_ (Quiet0.alloc _ _) | with_reducible refine Quiet0.trans ?_ (Quiet0.drew _) | fail))); (case hsl => (first | with_reducible exact hs1 | with_reducible exact hs2 | with_reducible exact hs1.stay (Quiet0.drew _) | with_reducible exact hs2.stay (Quiet0.drew _) | fail)); rintro e wx ⟨rfl, hqx⟩; refine with_q (w0 := WF) ?hq2 hqx ?_; (case hq2 => (repeat (first | with_reducible exact hqc | with_reducible exact Quiet0.refl _ | with_reducible refine Quiet0.trans ?_ (Quiet0.alloc _ _) | with_reducible refine Quiet0.trans ?_ (Quiet0.drew _) | fail))); intro hqc)
        | (go_at_call 17; (with_reducible refine Calls.mono (HPO.out _ _ _ ?hq ?hsl) ?_); (case hq => (repeat (first | with_reducible exact hqc | with_reducible exact Quiet0.refl _ | with_reducible refine Quiet0.trans ?_ (Quiet0.alloc _ _) | with_reducible refine Quiet0.trans ?_ (Quiet0.drew _) | fail))); (case hsl => (first | with_reducible exact hs2 | with_reducible exact hs2.stay hqp | with_reducible exact hs2.stay (Quiet0.drew _) | ((refine HSC.out _ ?_); (repeat (first | with_reducible exact hqc | with_reducible exact Quiet0.refl _ | with_reducible refine Quiet0.trans ?_ (Quiet0.alloc _ _) | with_reducible refine Quiet0.trans ?_ (Quiet0.drew _) | fail))) | fail)); rintro e wx ⟨rfl, hqx⟩; have hqp := hqx; refine with_q (w0 := WF) ?hq2 hqx ?_; (case hq2 => (repeat (first | with_reducible exact hqc | with_reducible exact Quiet0.refl _ | with_reducible refine Quiet0.trans ?_ (Quiet0.alloc _ _) | with_reducible refine Quiet0.trans ?_ (Quiet0.drew _) | fail))); intro hqc)
        | (go_at_call 15; (with_reducible refine Calls.mono (HAW.out _ ?hq) ?_); (case hq => (repeat (first | with_reducible exact hqc | with_reducible exact Quiet0.refl _ | with_reducible refine Quiet0.trans ?_ (Quiet0.alloc _ _) | with_reducible refine Quiet0.trans ?_ (Quiet0.drew _) | fail))); rintro e wx ⟨rfl, hqx⟩; refine with_q (w0 := WF) ?hq2 hqx ?_; (case hq2 => (repeat (first | with_reducible exact hqc | with_reducible exact Quiet0.refl _ | with_reducible refine Quiet0.trans ?_ (Quiet0.alloc _ _) | with_reducible refine Quiet0.trans ?_ (Quiet0.drew _) | fail))); intro hqc)
        | fail)
            all_goals
              go_wp2_with fail
              go_ret
              exact ⟨rfl, HQF.out.trans hqc⟩
          · have hov' : top + bz < 1073741824 := by omega
            obtain ⟨f1, f2⟩ := HCS2.out HTA.out hov'
            obtain ⟨e1, e2, e3⟩ := HEND.out ns os cps qs HSS.out HSHW.out.1 HSHW.out.2 hszs f1 f2
            go_upto_region 13 with fail
            obtain ⟨WF, hWF⟩ : ∃ WF, WF = (w8.alloc (.cells #[.int .i64 k, .int .i64 ns, .slice os len cps] 24)) := ⟨_, rfl⟩
            change Code.wp _ _ _ _ (w8.alloc (.cells #[.int .i64 k, .int .i64 ns, .slice os len cps] 24))
            rw [← hWF] at e1 e2 e3 ⊢
            have HQF := Lib.hid (HQ0.out.trans e1)
            have HBC := Lib.hid e2
            have HCO := Lib.hid e3
            have hq98 : Quiet0 w8 WF := by rw [hWF]; exact Quiet0.alloc _ _
            have HSC : Hid (∀ W, Quiet0 WF W → Slc W oc len pc) := fun W hq => HSC8.out.stay (hq98.trans hq)
            have HCC : Hid (∀ W, Quiet0 WF W → Calls Tryd.prog 35 #[.agg #[.int .i64 k, .int .i64 nc, .slice oc len cpc]] W fun e w' => ∃ o' cap', e = .returned (.agg #[.int .i64 k, .int .i64 nc, .slice o' len cap']) ∧ Slc w' o' len pc ∧ Quiet0 W w') := fun W hq => canon_of k nc pc W oc len cpc (HSC.out W hq) HPC.out.1 HPC.out.2 (by omega) nc pc HC2.out.1 HC2.out.2
            have HSM : Hid (∀ W o' cap', Quiet0 WF W → Slc W o' len pc → Calls Tryd.prog 19 #[.agg #[.int .i64 k, .int .i64 nc, .slice o' len cap'], .agg #[.int .i64 k, .int .i64 nc, .slice oc len cpc]] W fun e w' => e = .returned (.bool true) ∧ Quiet0 W w') := by
              intro W o' cap' hq h1
              have h := refSame_any k nc pc k nc pc W o' len cap' oc len cpc h1 (HSC.out W hq)
              have e : sameT k nc pc k nc pc = true := by simp [sameT, Fo.same_refl]
              rw [e] at h; exact h
            obtain ⟨s, hs'⟩ : ∃ s, s = tb (printT k nc pc) := ⟨_, rfl⟩
            have HPO : Hid (∀ W o' cap', Quiet0 WF W → Slc W o' len pc → Calls Tryd.prog 17 #[.agg #[.int .i64 k, .int .i64 nc, .slice o' len cap']] W fun e w' => e = .returned (.string s) ∧ Quiet0 W w') := by
              intro W o' cap' hq h1
              rw [hs']
              exact print_any k nc pc W o' len cap' h1 hszc (HT.out.stay (HQF.out.trans hq))
            have HAW : Hid (∀ W, Quiet0 WF W → Calls Tryd.prog 15 #[] W fun e w' => e = .returned (.bool true) ∧ Quiet0 W w') := fun W hq => HA.out W (HQF.out.trans hq)
            have hqc := Quiet0.refl WF
            obtain ⟨⟨z0, z1, z2⟩, y0, y1, y2⟩ := e2 WF (Quiet0.refl _)
            clear e1 e2 e3 hWF hs' hq98 b0 b1 b2
            generalize hB9 : w8.heap.size = B9 at *
            go_region_held3 (fun w' => (w'.cell? ⟨B5, 0, none⟩ = some (.int .i64 k) ∧ w'.cell? ⟨B5, 1, none⟩ = some (.int .i64 nc) ∧ w'.cell? ⟨B5, 2, none⟩ = some (.slice oc len cpc)) ∧ w'.cell? ⟨B9, 0, none⟩ = some (.int .i64 k) ∧ w'.cell? ⟨B9, 1, none⟩ = some (.int .i64 ns) ∧ w'.cell? ⟨B9, 2, none⟩ = some (.slice os len cps))
      (((refine HBC.out _ ?_); (repeat (first | with_reducible exact hqc | with_reducible exact Quiet0.refl _ | with_reducible refine Quiet0.trans ?_ (Quiet0.alloc _ _) | with_reducible refine Quiet0.trans ?_ (Quiet0.drew _) | fail))))
      (first
        | (go_at_call 35; (with_reducible refine Calls.mono (HCC.out _ ?hq) ?_); (case hq => (repeat (first | with_reducible exact hqc | with_reducible exact Quiet0.refl _ | with_reducible refine Quiet0.trans ?_ (Quiet0.alloc _ _) | with_reducible refine Quiet0.trans ?_ (Quiet0.drew _) | fail))); rintro e wx ⟨o1, cp1, rfl, hs1, hqx⟩; refine with_q (w0 := WF) ?hq2 hqx ?_; (case hq2 => (repeat (first | with_reducible exact hqc | with_reducible exact Quiet0.refl _ | with_reducible refine Quiet0.trans ?_ (Quiet0.alloc _ _) | with_reducible refine Quiet0.trans ?_ (Quiet0.drew _) | fail))); intro hqc)
        | (go_at_call 35; (with_reducible refine Calls.mono (HCO.out _ ?hq) ?_); (case hq => (repeat (first | with_reducible exact hqc | with_reducible exact Quiet0.refl _ | with_reducible refine Quiet0.trans ?_ (Quiet0.alloc _ _) | with_reducible refine Quiet0.trans ?_ (Quiet0.drew _) | fail))); rintro e wx ⟨o2, cp2, rfl, hs2, hqx⟩; refine with_q (w0 := WF) ?hq2 hqx ?_; (case hq2 => (repeat (first | with_reducible exact hqc | with_reducible exact Quiet0.refl _ | with_reducible refine Quiet0.trans ?_ (Quiet0.alloc _ _) | with_reducible refine Quiet0.trans ?_ (Quiet0.drew _) | fail))); intro hqc)
        | (go_at_call 19; (with_reducible refine Calls.mono (HSM.out _ _ _ ?hq ?hsl) ?_); (case hq => (repeat (first | with_reducible exact hqc | with_reducible exact Quiet0.refl _ | with_reducible refine Quiet0.trans ?_ (Quiet0.alloc _ _) | with_reducible refine Quiet0.trans ?_ (Quiet0.drew _) | fail))); (case hsl => (first | with_reducible exact hs1 | with_reducible exact hs2 | with_reducible exact hs1.stay (Quiet0.drew _) | with_reducible exact hs2.stay (Quiet0.drew _) | fail)); rintro e wx ⟨rfl, hqx⟩; refine with_q (w0 := WF) ?hq2 hqx ?_; (case hq2 => (repeat (first | with_reducible exact hqc | with_reducible exact Quiet0.refl _ | with_reducible refine Quiet0.trans ?_ (Quiet0.alloc _ _) | with_reducible refine Quiet0.trans ?_ (Quiet0.drew _) | fail))); intro hqc)
        | (go_at_call 17; (with_reducible refine Calls.mono (HPO.out _ _ _ ?hq ?hsl) ?_); (case hq => (repeat (first | with_reducible exact hqc | with_reducible exact Quiet0.refl _ | with_reducible refine Quiet0.trans ?_ (Quiet0.alloc _ _) | with_reducible refine Quiet0.trans ?_ (Quiet0.drew _) | fail))); (case hsl => (first | with_reducible exact hs2 | with_reducible exact hs2.stay hqp | with_reducible exact hs2.stay (Quiet0.drew _) | ((refine HSC.out _ ?_); (repeat (first | with_reducible exact hqc | with_reducible exact Quiet0.refl _ | with_reducible refine Quiet0.trans ?_ (Quiet0.alloc _ _) | with_reducible refine Quiet0.trans ?_ (Quiet0.drew _) | fail))) | fail)); rintro e wx ⟨rfl, hqx⟩; have hqp := hqx; refine with_q (w0 := WF) ?hq2 hqx ?_; (case hq2 => (repeat (first | with_reducible exact hqc | with_reducible exact Quiet0.refl _ | with_reducible refine Quiet0.trans ?_ (Quiet0.alloc _ _) | with_reducible refine Quiet0.trans ?_ (Quiet0.drew _) | fail))); intro hqc)
        | (go_at_call 15; (with_reducible refine Calls.mono (HAW.out _ ?hq) ?_); (case hq => (repeat (first | with_reducible exact hqc | with_reducible exact Quiet0.refl _ | with_reducible refine Quiet0.trans ?_ (Quiet0.alloc _ _) | with_reducible refine Quiet0.trans ?_ (Quiet0.drew _) | fail))); rintro e wx ⟨rfl, hqx⟩; refine with_q (w0 := WF) ?hq2 hqx ?_; (case hq2 => (repeat (first | with_reducible exact hqc | with_reducible exact Quiet0.refl _ | with_reducible refine Quiet0.trans ?_ (Quiet0.alloc _ _) | with_reducible refine Quiet0.trans ?_ (Quiet0.drew _) | fail))); intro hqc)
        | fail)
            all_goals
              go_wp2_with fail
              go_ret
              exact ⟨rfl, HQF.out.trans hqc⟩
  · rw [hg] at HG
    clear hs ht
    unfold tyv
    go_enter Tryd.func7, Tryd.ntmps7
    generalize hB : w.heap.size = B at *
    go_wp2_with fail
    rw [← hW0]
    obtain ⟨a0, a1, a2⟩ := HBX.out W0 (Quiet0.refl _)
    go_wp2_with fail
    refine (HG.out _ HQ0.out).mono ?_; rintro e w1 ⟨rfl, hq1⟩
    have HQ1 := Lib.hid hq1
    clear a0 a1 a2 hq1
    go_wp2_with fail
    refine (HA.out _ (HQ0.out.trans HQ1.out)).mono ?_; rintro e w2 ⟨rfl, hq2⟩
    go_wp2_with fail
    go_ret
    exact ⟨rfl, (HQ0.out.trans HQ1.out).trans hq2⟩
end Go.Proofs.YtggidhgifaekbaaDoor
