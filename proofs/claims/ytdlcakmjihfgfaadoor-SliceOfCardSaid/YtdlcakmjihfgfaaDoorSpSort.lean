/-
  slices.SortFunc on spans, by their first bytes. Conditions: the spans lie in a block that may be written; there are few.
-/
import Derived.Test.YtdlcakmjihfgfaaDoorSpDel
import Derived.Shelf.SlSortCmp.WholeK
import Derived.Test.YtdlcakmjihfgfaaDoorShelf
namespace Go.Proofs.YtdlcakmjihfgfaaDoor
open Go.RowKit Go.Shelf Go.Lib SpanPlain

abbrev encSp (x : Sp) : List Value := [.int .i64 x.1, .int .i64 x.2]
theorem ltFrom (x y : Sp) : ltOf (fun x y : Sp => Lib.compareInt x.1 y.1) x y = decide (x.1 < y.1) := by
  unfold ltOf Lib.compareInt
  by_cases h1 : x.1 < y.1
  · simp [h1]
  · by_cases h2 : y.1 < x.1 <;> simp [h1, h2]
theorem swoFrom : Go.Sort.SWO (ltOf fun x y : Sp => Lib.compareInt x.1 y.1) where
  irrefl x := by rw [ltFrom]; simp
  trans x y z h1 h2 := by rw [ltFrom] at *; simp at *; omega
  ntrans x y z h1 h2 := by rw [ltFrom] at *; simp at *; omega
theorem SpB.holds {w : World} {b c : Nat} {l : List Sp} (h : SpB w b c l) : Go.Sort.HoldsK encSp 2 w b 0 l.toArray := by
  intro j hj
  rw [Go.Sort.size_flatK] at hj
  have hj' : j < l.length * 2 := by simpa using hj
  rw [Go.Sort.get_flatK _ _ _ _ hj]
  have hjl : j / 2 < l.length := by omega
  obtain ⟨h1, h2, h3, h4⟩ := h.at (List.getElem?_eq_getElem hjl)
  have e : l.toArray[j / 2]! = l[j / 2] := by
    rw [getElem!_pos l.toArray (j / 2) (by simpa using hjl)]; simp
  rw [e, Nat.zero_add]
  rcases Nat.mod_two_eq_zero_or_one j with m | m
  · have e' : j / 2 * 2 = j := by omega
    rw [e'] at h1 h3
    rw [m]; exact ⟨h1, h3⟩
  · have e' : j / 2 * 2 + 1 = j := by omega
    rw [e'] at h2 h4
    rw [m]; exact ⟨h2, h4⟩
theorem sp_sorted {w w' : World} {b c n : Nat} {l : List Sp} {d' : Array Sp} {os : Array Obj} (h : SpB w b c l) (hp : Go.Sort.PermIn 0 l.toArray.size l.toArray d') (hs : Go.Sort.SortedIn (ltOf fun x y : Sp => Lib.compareInt x.1 y.1) 0 l.toArray.size d')
    (hw : w' = Go.Proofs.sortWorldK encSp 2 w b 0 n d' os) : ∃ l', l'.Perm l ∧ l'.Pairwise (fun s t => s.1 ≤ t.1) ∧ SpB w' b c l' ∧ Fr (fun k => k = b) w w' := by
  have hlt := h.lt
  obtain ⟨cur, h0, h1, h2, h3, h4⟩ := h
  obtain ⟨p1, p2, p3⟩ := hp
  have hsz : d'.size = l.length := by simpa using p1
  refine ⟨d'.toList, ?_, ?_, ?_, ?_⟩
  · have e1 : d'.extract 0 l.toArray.size = d' := by rw [← p1]; simp
    have e2 : l.toArray.extract 0 l.toArray.size = l.toArray := by simp
    rw [e1, e2] at p3
    simpa using p3
  · rw [List.pairwise_iff_getElem]
    intro i j hi hj hij
    have hi' : i < d'.size := by simpa using hi
    have hj' : j < d'.size := by simpa using hj
    have := hs i j (Nat.zero_le _) hij (by simp; omega)
    rw [ltFrom, getElem!_pos d' i hi', getElem!_pos d' j hj'] at this
    simp at this
    simpa using this
  · have hb : w'.heap[b]? = some (.cells (Go.Sort.putCells id 0 (Go.Sort.flatK encSp 2 d') cur) 41 (0, 0)) := by
      rw [hw]
      unfold Go.Proofs.sortWorldK Go.Sort.grow Go.Sort.putRowK Go.Sort.putRow Go.Sort.mapBlock
      show (_ ++ os)[b]? = _
      rw [Array.getElem?_append_left (by simpa [Go.Sort.ahead] using hlt)]
      simp [Go.Sort.ahead, Array.getElem?_modify, h0, Go.Sort.onCells]
    refine ⟨_, hb, by simp [Go.Sort.putCells, h1], by simp; omega, h3, fun j t ht => ?_⟩
    have hj : j < d'.size := by
      rcases Nat.lt_or_ge j d'.size with h' | h'
      · exact h'
      · simp [Array.getElem?_eq_none h'] at ht
    have ht' : d'[j]! = t := by
      rw [getElem!_pos d' j hj]
      have : d'[j]? = some t := by simpa using ht
      rw [Array.getElem?_eq_getElem hj] at this
      exact Option.some.inj this
    constructor
    · unfold Go.Sort.putCells
      rw [Array.getElem?_mapIdx, Array.getElem?_eq_getElem (show j * 2 < cur.size by omega)]
      simp only [Option.map_some, Go.Sort.size_flatK, Nat.zero_le, Nat.zero_add, true_and, Nat.sub_zero]
      rw [if_pos (by omega), Go.Sort.get_flatK _ _ _ _ (by omega), show j * 2 / 2 = j from by omega, show j * 2 % 2 = 0 from by omega, ht']
      rfl
    · unfold Go.Sort.putCells
      rw [Array.getElem?_mapIdx, Array.getElem?_eq_getElem (show j * 2 + 1 < cur.size by omega)]
      simp only [Option.map_some, Go.Sort.size_flatK, Nat.zero_le, Nat.zero_add, true_and, Nat.sub_zero]
      rw [if_pos (by omega), Go.Sort.get_flatK _ _ _ _ (by omega), show (j * 2 + 1) / 2 = j from by omega, show (j * 2 + 1) % 2 = 1 from by omega, ht']
      rfl
  · rw [hw]
    unfold Go.Proofs.sortWorldK Go.Sort.grow Go.Sort.putRowK Go.Sort.putRow Go.Sort.mapBlock
    refine ⟨rfl, rfl, rfl, by simp [Go.Sort.ahead], fun k hk hne => ?_⟩
    show (_ ++ os)[k]? = _
    rw [Array.getElem?_append_left (by simpa [Go.Sort.ahead] using hk)]
    simp [Go.Sort.ahead, Array.getElem?_modify, Ne.symm hne]
theorem isNaN_any (x : Int) (w : World) : Calls Tryd.prog 68 #[.int .i64 x] w fun e w' => e = .returned (.bool false) ∧ w = w' := by
  go_enter Tryd.func68, Tryd.ntmps68
  go_wp2_with fail
  go_ret
  exact ⟨by simp, rfl⟩
theorem compareI_any (x y : Int) (w : World) : Calls Tryd.prog 53 #[.int .i64 x, .int .i64 y] w fun e w' => e = .returned (.int .i64 (Lib.compareInt x y)) ∧ w = w' := by
  unfold Lib.compareInt
  by_cases h1 : x < y
  · go_enter Tryd.func53, Tryd.ntmps53
    go_wp2_with (go_at_call 68; refine (isNaN_any _ _).mono ?_; rintro e w' ⟨rfl, rfl⟩)
    go_ret
    exact ⟨by simp, rfl⟩
  · by_cases h2 : y < x
    all_goals
      go_enter Tryd.func53, Tryd.ntmps53
      go_wp2_with (go_at_call 68; refine (isNaN_any _ _).mono ?_; rintro e w' ⟨rfl, rfl⟩)
      go_ret
      exact ⟨by simp, rfl⟩
theorem closureM_any (x y : Sp) (W : World) : Calls Tryd.prog 52 #[.agg #[.int .i64 x.1, .int .i64 x.2], .agg #[.int .i64 y.1, .int .i64 y.2]] W fun e w' => e = .returned (.int .i64 (Lib.compareInt x.1 y.1)) ∧ ∃ q os', w' = Go.Sort.grow (W.drewN q) os' := by
  have hcon := fun W' => compareI_any x.1 y.1 W'
  generalize Lib.compareInt x.1 y.1 = r at hcon ⊢
  go_enter Tryd.func52, Tryd.ntmps52
  go_wp2_with (go_at_call 53; refine (hcon _).mono ?_; rintro e w' ⟨rfl, rfl⟩)
  go_ret
  exact ⟨rfl, 0, _, by rw [Go.Sort.alloc_eq_grow, Go.Sort.alloc_eq_grow, Go.Sort.grow_grow]; rfl⟩
/-- slices.SortFunc on spans that lie in a block -/
theorem sortS_any (l : List Sp) (b cap : Nat) (w : World) (hs : SpB w b cap l) (hz : l.length ≤ 1000000) :
    Calls Tryd.prog 51 #[.slice (some ⟨b, 0, none⟩) l.length cap, .func (.func 52) #[] #[]] w fun e w' => e = .returned (.tuple #[]) ∧ ∃ l', l'.Perm l ∧ l'.Pairwise (fun s t => s.1 ≤ t.1) ∧ SpB w' b cap l' ∧ Fr (fun k => k = b) w w' := by
  have eg : ∀ args w, (callFunc 52 args).run Tryd.prog w = .ok (.enter 52 args) w := enters_of Tryd.func52 (by kernel_rfl) rfl
  have hcon := AnyQ.slices_SortFunc Tryd.sortSp 2 Tryd.isAgg41 Tryd.sizeOf41 encSp (fun _ => rfl) (fun x v hv => by simp [encSp] at hv; rcases hv with rfl | rfl <;> rfl) (fun x y => Lib.compareInt x.1 y.1) swoFrom 52 #[] b 0 cap l.toArray w eg (fun _ _ _ _ x y => closureM_any x y _) hs.holds hs.lt (by simp; omega)
  change Calls Tryd.prog 51 _ _ _ at hcon
  rw [show l.toArray.size = l.length from by simp] at hcon
  refine hcon.mono ?_
  rintro e w' ⟨he, d', n, os, hp, hso, hw⟩
  exact ⟨he, sp_sorted hs (by simpa using hp) (by simpa using hso) hw⟩
end Go.Proofs.YtdlcakmjihfgfaaDoor
