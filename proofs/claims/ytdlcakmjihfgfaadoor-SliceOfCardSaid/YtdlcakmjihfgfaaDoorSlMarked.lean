/-
  slice.Marked and slice.Skeleton. Conditions: the spans lie in memory as told; there are few; the text is short.
-/
import Derived.Test.YtdlcakmjihfgfaaDoorSlEach
namespace Go.Proofs.YtdlcakmjihfgfaaDoor
open Go.RowKit Go.Shelf SpanPlain

theorem mark_grow (acc x y : ByteArray) : (markF acc x y).size ≤ acc.size + x.size + y.size + 10 := by
  unfold markF; split
  · simp only [ByteArray.size_append]; omega
  · simp only [ByteArray.size_append]; have e1 : mL.size = 2 := rfl; have e2 : mR.size = 2 := rfl; omega
theorem skel_grow (acc x y : ByteArray) : (skelF acc x y).size ≤ acc.size + x.size + y.size + 10 := by
  unfold skelF; split
  · simp only [ByteArray.size_append]; have e1 : dots.size = 2 := rfl; omega
  · simp only [ByteArray.size_append]; omega
def StrQ (w : World) (s : ByteArray) (e : Ending) (w' : World) : Prop := e = .returned (.string s) ∧ Quiet0 w w'
set_option maxHeartbeats 1000000 in
theorem marked_any (text : ByteArray) (l : List Sp) (o : Option Addr) (cap : Nat) (w : World) (R : Nat → Prop) (hs : SpAt R w o l) (hz : l.length ≤ 100000) (hn : text.size ≤ 1000000) :
    Calls Tryd.prog 7 #[.string text, .slice o l.length cap] w (StrQ w (eachF text markF (clipN text.size (rmerge l)) 0 ByteArray.empty)) := by
  obtain ⟨W0, hW0⟩ : ∃ W0, W0 = w.alloc (.cells #[.pointer none, .slice none 0 0] 45) := ⟨_, rfl⟩
  have hq0 : Quiet0 w W0 := by rw [hW0]; exact Quiet0.alloc _ _
  have hsb : SB w.heap.size w.heap.size ByteArray.empty W0 := by rw [hW0]; exact SB.new w
  have HE := Lib.hid (each_any 21 w.heap.size w.heap.size markF (enters_of Tryd.func21 (by kernel_rfl) rfl) (markDo_any _ _) mark_grow text l o cap W0 R (hs.stay hq0) hz (by have := rmerge_length l; omega) hn ByteArray.empty (by decide) hsb hsb.lt hq0.size)
  have HQ0 := Lib.hid hq0
  clear hs hq0 hsb
  generalize eachF text markF (clipN text.size (rmerge l)) 0 ByteArray.empty = res at *
  go_enter Tryd.func7, Tryd.ntmps7
  go_wp2_with fail
  rw [← hW0]
  refine HE.out.mono ?_; rintro e w1 ⟨rfl, hs1, hb1⟩
  have HS := Lib.hid (string_any _ _ res w1 hs1 (by have := hb1.size; have := HQ0.out.size; omega))
  have HB1 := Lib.hid hb1
  clear hs1 hb1 hW0
  go_wp2_with fail
  refine HS.out.mono ?_; rintro e w2 ⟨rfl, hb2⟩
  have HQ : Hid (Quiet0 w w2) := Lib.hid (Quiet0.of_below ((Fr.below HQ0.out (Nat.le_refl _) (fun _ h => h.elim)).trans (HB1.out.trans hb2)))
  clear hb2
  go_wp2_with fail
  go_ret
  exact ⟨rfl, HQ.out⟩
set_option maxHeartbeats 1000000 in
theorem skeleton_any (text : ByteArray) (l : List Sp) (o : Option Addr) (cap : Nat) (w : World) (R : Nat → Prop) (hs : SpAt R w o l) (hz : l.length ≤ 100000) (hn : text.size ≤ 1000000) :
    Calls Tryd.prog 9 #[.string text, .slice o l.length cap] w (StrQ w (eachF text skelF (clipN text.size (rmerge l)) 0 ByteArray.empty)) := by
  obtain ⟨W0, hW0⟩ : ∃ W0, W0 = w.alloc (.cells #[.pointer none, .slice none 0 0] 45) := ⟨_, rfl⟩
  have hq0 : Quiet0 w W0 := by rw [hW0]; exact Quiet0.alloc _ _
  have hsb : SB w.heap.size w.heap.size ByteArray.empty W0 := by rw [hW0]; exact SB.new w
  have HE := Lib.hid (each_any 25 w.heap.size w.heap.size skelF (enters_of Tryd.func25 (by kernel_rfl) rfl) (skelDo_any _ _) skel_grow text l o cap W0 R (hs.stay hq0) hz (by have := rmerge_length l; omega) hn ByteArray.empty (by decide) hsb hsb.lt hq0.size)
  have HQ0 := Lib.hid hq0
  clear hs hq0 hsb
  generalize eachF text skelF (clipN text.size (rmerge l)) 0 ByteArray.empty = res at *
  go_enter Tryd.func9, Tryd.ntmps9
  go_wp2_with fail
  rw [← hW0]
  refine HE.out.mono ?_; rintro e w1 ⟨rfl, hs1, hb1⟩
  have HS := Lib.hid (string_any _ _ res w1 hs1 (by have := hb1.size; have := HQ0.out.size; omega))
  have HB1 := Lib.hid hb1
  clear hs1 hb1 hW0
  go_wp2_with fail
  refine HS.out.mono ?_; rintro e w2 ⟨rfl, hb2⟩
  have HQ : Hid (Quiet0 w w2) := Lib.hid (Quiet0.of_below ((Fr.below HQ0.out (Nat.le_refl _) (fun _ h => h.elim)).trans (HB1.out.trans hb2)))
  clear hb2
  go_wp2_with fail
  go_ret
  exact ⟨rfl, HQ.out⟩
end Go.Proofs.YtdlcakmjihfgfaaDoor
