/-
  (*strings.Builder).WriteString and String, of a builder of the call's own. Condition: what it holds is not too long.
-/
import Derived.Test.YtdlcakmjihfgfaaDoorSpMem
import Derived.Test.YtdlcakmjihfgfaaDoorBlk
import Derived.Shelf.Strings.BuilderK
import Derived.Test.YtdlcakmjihfgfaaDoorShelf
namespace Go.Proofs.YtdlcakmjihfgfaaDoor
open Go.RowKit Go.Shelf

/-- a builder in block b (from B on) that holds a text -/
def SB (B b : Nat) (acc : ByteArray) (W : World) : Prop := Lib.IsBuilderF 45 5 B b (Lib.byteCells acc.data.toList) W
abbrev Kept8 (b : Nat) (w w' : World) : Prop := Lib.OthersKept 5 (some b) w w'
theorem SB.stay {B b : Nat} {acc : ByteArray} {W W' : World} (h : SB B b acc W) (hq : Quiet0 W W') : SB B b acc W' := by
  have hg : W.grownBy W' none := ⟨hq.os, hq.tape, hq.output, hq.size, fun k hk _ => hq.block k hk (fun h => h)⟩
  have em : ∀ v : Value, v.ownBlock = none ∨ v.ownBlock ≠ none := fun v => by cases v.ownBlock <;> simp
  rcases h with ⟨k1, v, k2, k3, k4⟩ | ⟨k1, v, k2, k3, k4⟩
  · exact .inl ⟨k1, v, (hq.block _ (lt_of_block k2) (fun h => h)).trans k2, k3.kept hg (em v), k4⟩
  · exact .inr ⟨k1, v, (hq.block _ (lt_of_block k2) (fun h => h)).trans k2, k3.kept hg (em v), k4⟩
theorem SB.new (W : World) : SB W.heap.size W.heap.size ByteArray.empty (W.alloc (.cells #[.pointer none, .slice none 0 0] 45)) :=
  .inl ⟨Nat.le_refl _, .slice none 0 0, heap_alloc_new W _, World.ownsRowF_nil _ _ _ _, by simp [Value.ownBlock]⟩
theorem SB.lt {B b : Nat} {acc : ByteArray} {W : World} (h : SB B b acc W) : b < W.heap.size := by
  rcases h with ⟨_, v, k2, _⟩ | ⟨_, v, k2, _⟩ <;> exact lt_of_block k2
set_option maxRecDepth 100000 in
set_option maxHeartbeats 1000000 in
theorem checkUsed_any (b : Nat) (w : World) (h0 : w.cell? ⟨b, 0, none⟩ = some (.pointer (some ⟨b, 0, none⟩))) :
    Calls Tryd.prog 37 #[.pointer (some ⟨b, 0, none⟩)] w fun e w' => e = .returned (.tuple #[]) ∧ w = w' := by
  obtain ⟨j, hj, _⟩ := Option.map_eq_some_iff.1 (show (Tryd.prog.info? 45).map (fun i => i.size) = some 2 by kernel_rfl)
  go_enter Tryd.func37, Tryd.ntmps37
  go_wp2_with fail
  rw [Lib.run_neq_ptr_same w _ Tryd.underlying42 hj]
  go_wp2_with fail
  go_end0
  exact ⟨rfl, rfl⟩
set_option maxRecDepth 100000 in
set_option maxHeartbeats 1000000 in
theorem checkFresh_any (b : Nat) (w : World) (h0 : w.cell? ⟨b, 0, none⟩ = some (.pointer none)) (hsh : w.shape? b = some (45, 2)) (hfz : w.frozen? ⟨b, 0, none⟩ = false) :
    Calls Tryd.prog 37 #[.pointer (some ⟨b, 0, none⟩)] w fun e w' => e = .returned (.tuple #[]) ∧ w' = w.setCell ⟨b, 0, none⟩ (.pointer (some ⟨b, 0, none⟩)) := by
  obtain ⟨j, hj, hjs⟩ := Option.map_eq_some_iff.1 (show (Tryd.prog.info? 45).map (fun i => i.size) = some 2 by kernel_rfl)
  go_enter Tryd.func37, Tryd.ntmps37
  go_wp2_with fail
  rw [Lib.run_to_unsafe w ⟨b, 0, none⟩ Tryd.underlying42 Tryd.underlying87 hj (by rw [hjs]; decide) hsh (Nat.zero_lt_succ 1)]
  simp only [Result.andThen]
  rw [Oper.upon_value]
  go_wp2_with fail
  rw [run_callFunc_extern Tryd.func54 (by kernel_rfl) (by kernel_rfl) (by kernel_rfl) (e := Extern.AbiNoEscape.same) (by kernel_rfl)]
  rw [Lib.run_noEscape]
  simp only [Result.andThen]
  rw [Oper.upon_value]
  go_wp2_with fail
  rw [Lib.run_from_unsafe w ⟨b, 0, none⟩ Tryd.underlying87 Tryd.underlying42 hj hsh (by kernel_rfl)]
  simp only [Result.andThen]
  rw [Oper.upon_value]
  go_wp2_with fail
  go_end0
  exact ⟨rfl, rfl⟩
theorem check_any (B b : Nat) (bs : List Value) (w : World) (h : Lib.IsBuilderF 45 5 B b bs w) :
    Calls Tryd.prog 37 #[.pointer (some ⟨b, 0, none⟩)] w fun e w' => e = .returned (.tuple #[]) ∧ (Lib.BuilderAtF 45 5 B b (.pointer (some ⟨b, 0, none⟩)) bs w' ∧ Below B w w' ∧ Kept8 b w w') := by
  rcases h with h | h
  · refine (checkFresh_any b w h.cell0 h.shape h.frozen0).mono ?_
    rintro e w' ⟨rfl, rfl⟩
    exact ⟨rfl, h.used _, (Below.refl B w).setCell (p := ⟨b, 0, none⟩) h.1 _, (Lib.OthersKept.refl _ _ w).setCell ⟨b, 0, none⟩ rfl _⟩
  · refine (checkUsed_any b w h.cell0).mono ?_
    rintro e w' ⟨rfl, rfl⟩
    exact ⟨rfl, h, Below.refl B _, Lib.OthersKept.refl _ _ _⟩
set_option maxHeartbeats 2000000 in
set_option maxRecDepth 100000 in
theorem write_any (B b : Nat) (acc s : ByteArray) (w : World) (h : SB B b acc w) (hlen : acc.size + s.size ≤ 140737488355328) (hBw : B ≤ w.heap.size) :
    Calls Tryd.prog 22 #[.pointer (some ⟨b, 0, none⟩), .string s] w fun e w' => e = .returned (.tuple #[.int .i64 s.size, .nilIface]) ∧ SB B b (acc ++ s) w' ∧ Below B w w' ∧ Kept8 b w w' := by
  obtain ⟨i0, hi, hz0, hz1, hz2⟩ := info_parts (show (Tryd.prog.info? 5).map (fun i => (i.zero, i.size, i.bytes)) = some (some (.int .u8 0), 1, 1) by kernel_rfl)
  have HC := Lib.hid (check_any B b _ w h)
  have hbl : (Lib.byteCells acc.data.toList).length = acc.size := by rw [Lib.byteCells_length]; simp
  have HS : Hid (Lib.byteCells (acc ++ s).data.toList = Lib.byteCells acc.data.toList ++ Lib.strCells s) := by
    show _ = _; simp [Lib.byteCells, Lib.strCells]
  clear h
  go_enter Tryd.func22, Tryd.ntmps22
  go_wp2_with fail
  refine HC.out.mono ?_
  rintro e w1 ⟨rfl, h1, hb1, hk1⟩
  obtain ⟨hB, v, hbk, hown, hne⟩ := h1
  have c0 : w1.cell? ⟨b, 0, none⟩ = some (.pointer (some ⟨b, 0, none⟩)) := by rw [Lib.cell_of_heap hbk]; rfl
  have c1 : w1.cell? ⟨b, 1, none⟩ = some v := by rw [Lib.cell_of_heap hbk]; rfl
  have HOWN := Lib.hid hown
  have HBK := Lib.hid hbk
  have HB1 := Lib.hid hb1
  have HK1 := Lib.hid hk1
  have HNE := Lib.hid hne
  have HBL := Lib.hid hbl
  clear hown hbk hb1 hk1 hne hbl HC
  go_wp2_with (at_builtin; refine Lib.wpList_append_own_stringF _ rfl _ _ 43 9 rfl B 5 i0 Tryd.underlying43 Tryd.underlying9 hi hz0 hz1 hz2 _ _ _ rfl HOWN.out s rfl ?c3 ?c4 ?c5 ?_)
  case c3 => rw [HBL.out]; unfold maxLen; omega
  case c4 => rw [HBL.out]; omega
  case c5 => have := HB1.out.size; omega
  intro v' w2 hown' hgrow _
  have hlt : b < w1.heap.size := lt_of_block HBK.out
  have hb2 : w2.heap[b]? = some (.cells #[.pointer (some ⟨b, 0, none⟩), v] 45 (0, 0)) := by
    rw [hgrow.block b hlt (fun e => HNE.out e.symm)]
    exact HBK.out
  have d0 : w2.cell? ⟨b, 0, none⟩ = some (.pointer (some ⟨b, 0, none⟩)) := by rw [Lib.cell_of_heap hb2]; rfl
  have d1 : w2.cell? ⟨b, 1, none⟩ = some v := by rw [Lib.cell_of_heap hb2]; rfl
  have f1 : w2.frozen? ⟨b, 1, none⟩ = false := Lib.frozen_of_heap hb2 1
  obtain ⟨ao, n', cap, rfl⟩ : ∃ ao n' cap, v' = .slice ao n' cap := by
    rcases hown'.2 with ⟨hv, _⟩ | ⟨g, cap, cur, fz, hv, _⟩
    · exact ⟨_, _, _, hv⟩
    · exact ⟨_, _, _, hv⟩
  have HO2 := Lib.hid hown'
  have HG2 := Lib.hid hgrow
  have HB2 := Lib.hid hb2
  clear hown' hgrow hb2 c0 c1
  go_wp2_with fail
  go_ret2
  refine ⟨rfl, ?_, ?_, (HK1.out.grown HG2.out (Lib.ownsRowF_kind HOWN.out)).setCell ⟨b, 1, none⟩ rfl _⟩
  · show Lib.IsBuilderF _ _ _ _ _ _
    rw [HS.out]
    exact .inr (Lib.BuilderAtF.put (T := 45) (e := 5) hB HB2.out (bs' := Lib.byteCells acc.data.toList ++ Lib.strCells s) (by simpa [Lib.strCells_length] using HO2.out) (by decide))
  · exact (HB1.out.grown HG2.out (by have := HB1.out.size; omega) (fun k hk => (HOWN.out.lt k hk).1)).setCell (p := ⟨b, 1, none⟩) hB _
theorem string_any (B b : Nat) (acc : ByteArray) (w : World) (h : SB B b acc w) (hBw : B ≤ w.heap.size) :
    Calls Tryd.prog 23 #[.pointer (some ⟨b, 0, none⟩)] w fun e w' => e = .returned (.string acc) ∧ Below B w w' := by
  refine (Tryd.Builder_String_any_k B b acc.data.toList w h hBw).mono ?_
  rintro e w' ⟨rfl, _, hb, _⟩
  exact ⟨rfl, hb⟩
end Go.Proofs.YtdlcakmjihfgfaaDoor
