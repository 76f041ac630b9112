/-
  DERIVED: THE SHELF's CONTRACTS AT THIS DUMP, IN PLAIN WORDS (tools/lay-plain.mjs out of 'TrydShelf.lean', which tools/lay-shelf.mjs wrote): THE SAME DECLARATIONS UNDER THE SAME NAMES: 'import', 'namespace', 'open', 'def', 'theorem' AND NOTHING ELSE: no command of the shelf's: FOR A HAND-IN. Each laying: the table of numbers ('.._ren') and one theorem, a field a fact of the dump's own or the kernel's comparison; each contract: ONE APPLICATION.
-/
import Derived.Shelf.Strings.Fields
import Derived.Shelf.Slices.Turned
import Derived.Test.YtcninopmelmajaaDoorProg
namespace Go.Proofs
open Go.Shelf
def Tryd.lays157_ren : Go.Shelf.Ren := ⟨fun | 157 => 95 | 229 => 98 | 199 => 99 | 261 => 100 | 311 => 101 | 312 => 102 | n => n, fun | 9 => 9 | 31 => 56 | 3 => 3 | 5 => 5 | 4 => 4 | 119 => 132 | 0 => 0 | 40 => 134 | 152 => 135 | 21 => 21 | 154 => 137 | 51 => 138 | 141 => 140 | 196 => 144 | 193 => 141 | 198 => 147 | 49 => 145 | 194 => 142 | 201 => 150 | 226 => 152 | 46 => 153 | 227 => 154 | n => n, fun | 0 => 0 | 6 => 1 | n => n⟩
theorem Tryd.lays157 : Go.Proofs.Lays.n157 Tryd.prog Tryd.lays157_ren := {
  mixed := by kernel_rfl
  f157 := Tryd.func95.trans (congrArg some (by kernel_rfl))
  f199 := Tryd.func99.trans (congrArg some (by kernel_rfl))
  f229 := Tryd.func98.trans (congrArg some (by kernel_rfl))
  f261 := Tryd.func100.trans (congrArg some (by kernel_rfl))
  f311 := Tryd.func101.trans (congrArg some (by kernel_rfl))
  f312 := Tryd.func102.trans (congrArg some (by kernel_rfl))
  t0 := Tryd.underlying0
  a0 := Tryd.isAgg0
  z0 := Tryd.sizeOf0
  v0 := Tryd.zeroValue0
  t3 := Tryd.underlying3
  a3 := Tryd.isAgg3
  z3 := Tryd.sizeOf3
  v3 := Tryd.zeroValue3
  t4 := Tryd.underlying4
  a4 := Tryd.isAgg4
  z4 := Tryd.sizeOf4
  v4 := Tryd.zeroValue4
  t5 := Tryd.underlying5
  a5 := Tryd.isAgg5
  z5 := Tryd.sizeOf5
  v5 := Tryd.zeroValue5
  t9 := Tryd.underlying9
  a9 := Tryd.isAgg9
  z9 := Tryd.sizeOf9
  v9 := Tryd.zeroValue9
  t21 := Tryd.underlying21
  a21 := Tryd.isAgg21
  z21 := Tryd.sizeOf21
  v21 := Tryd.zeroValue21
  t31 := Tryd.underlying56
  a31 := Tryd.isAgg56
  z31 := Tryd.sizeOf56
  v31 := Tryd.zeroValue56
  t40 := Tryd.underlying134
  a40 := Tryd.isAgg134
  z40 := Tryd.sizeOf134
  v40 := Tryd.zeroValue134
  t46 := Tryd.underlying153
  a46 := Tryd.isAgg153
  z46 := Tryd.sizeOf153
  v46 := Tryd.zeroValue153
  t49 := Tryd.underlying145
  a49 := Tryd.isAgg145
  z49 := Tryd.sizeOf145
  v49 := Tryd.zeroValue145
  t51 := Tryd.underlying138
  a51 := Tryd.isAgg138
  z51 := Tryd.sizeOf138
  v51 := Tryd.zeroValue138
  t119 := Tryd.underlying132
  a119 := Tryd.isAgg132
  z119 := Tryd.sizeOf132
  t141 := Tryd.underlying140
  a141 := Tryd.isAgg140
  z141 := Tryd.sizeOf140
  v141 := Tryd.zeroValue140
  t152 := Tryd.underlying135
  a152 := Tryd.isAgg135
  z152 := Tryd.sizeOf135
  v152 := Tryd.zeroValue135
  t154 := Tryd.underlying137
  a154 := Tryd.isAgg137
  z154 := Tryd.sizeOf137
  v154 := Tryd.zeroValue137
  t193 := Tryd.underlying141
  a193 := Tryd.isAgg141
  z193 := Tryd.sizeOf141
  v193 := Tryd.zeroValue141
  t194 := Tryd.underlying142
  a194 := Tryd.isAgg142
  z194 := Tryd.sizeOf142
  v194 := Tryd.zeroValue142
  t196 := Tryd.underlying144
  a196 := Tryd.isAgg144
  z196 := Tryd.sizeOf144
  v196 := Tryd.zeroValue144
  t198 := Tryd.underlying147
  a198 := Tryd.isAgg147
  z198 := Tryd.sizeOf147
  v198 := Tryd.zeroValue147
  t201 := Tryd.underlying150
  a201 := Tryd.isAgg150
  z201 := Tryd.sizeOf150
  v201 := Tryd.zeroValue150
  t226 := Tryd.underlying152
  a226 := Tryd.isAgg152
  z226 := Tryd.sizeOf152
  v226 := Tryd.zeroValue152
  t227 := Tryd.underlying154
  a227 := Tryd.isAgg154
  z227 := Tryd.sizeOf154
  v227 := Tryd.zeroValue154
  g0 := by kernel_rfl
  g6 := by kernel_rfl }
open Go.RowKit Go.Lib in
/-- strings.Fields, the table by 'Lib.TabIs' (as strings.TrimSpace's contract). 'hg': the table's number, by its name: at a dump 'by kernel_rfl'. (LAID: no walk: one application.) -/
theorem Tryd.strings_Fields (s : ByteArray) (w : World) (hs : s.size < 4294967281) (hascii : ∀ (j : Nat) b, s.data.toList[j]? = some b → b.toNat < 128) (htab : Lib.TabIs Tryd.prog w "strings.asciiSpace" .u8 Lib.asciiSpaceTab) :
    Calls Tryd.prog 95 #[.string s] w fun e w' =>
      e = .returned (.slice (some ⟨w.heap.size, 0, none⟩) (Lib.fields s.data.toList).length (Lib.fields s.data.toList).length) ∧ w' = w.alloc (.cells ((Lib.fields s.data.toList).map fun l => Value.string ⟨l.toArray⟩).toArray 9) := Any.strings_Fields Tryd.lays157 (by kernel_rfl) (by kernel_rfl) s w hs hascii htab
def Tryd.lays110_ren : Go.Shelf.Ren := ⟨fun | 110 => 94 | 109 => 97 | n => n, fun | 31 => 56 | 9 => 9 | 4 => 4 | 3 => 3 | 0 => 0 | n => n, fun | n => n⟩
theorem Tryd.lays110 : Go.Proofs.Lays.n110 Tryd.prog Tryd.lays110_ren := {
  mixed := by kernel_rfl
  f109 := Tryd.func97.trans (congrArg some (by kernel_rfl))
  f110 := Tryd.func94.trans (congrArg some (by kernel_rfl))
  t0 := Tryd.underlying0
  a0 := Tryd.isAgg0
  z0 := Tryd.sizeOf0
  v0 := Tryd.zeroValue0
  t3 := Tryd.underlying3
  a3 := Tryd.isAgg3
  z3 := Tryd.sizeOf3
  v3 := Tryd.zeroValue3
  t4 := Tryd.underlying4
  a4 := Tryd.isAgg4
  z4 := Tryd.sizeOf4
  v4 := Tryd.zeroValue4
  t9 := Tryd.underlying9
  a9 := Tryd.isAgg9
  z9 := Tryd.sizeOf9
  v9 := Tryd.zeroValue9
  t31 := Tryd.underlying56
  a31 := Tryd.isAgg56
  z31 := Tryd.sizeOf56
  v31 := Tryd.zeroValue56 }
open Go.Lib in
/-- slices.Contains at []string: "Contains reports whether v is present in s.": IT RETURNS 'Lib.containsS (the elements) v', which is true just where v is among them ('Lib.containsS_iff'); the world is as it was. ITS CALLEE slices.Index IS MET BY ITS OWN CONTRACT OFF THE SHELF (lay that first): no loop is walked here. (LAID: no walk: one application.) -/
theorem Tryd.slices_Contains_string (b off n c : Nat) (zs : List ByteArray) (x : ByteArray) (w : World) (hz : n ≤ zs.length) (hbig : n ≤ 9223372036854775807) (hc : ∀ j, j < zs.length → w.cell? ⟨b, off + j, none⟩ = some (.string (zs.getD j ByteArray.empty))) :
    Calls Tryd.prog 94 #[.slice (some ⟨b, off, none⟩) n c, .string x] w fun e w' => e = .returned (.bool (Lib.containsS (zs.take n) x)) ∧ w' = w := Any.slices_Contains_string Tryd.lays110 b off n c zs x w hz hbig hc
end Go.Proofs
