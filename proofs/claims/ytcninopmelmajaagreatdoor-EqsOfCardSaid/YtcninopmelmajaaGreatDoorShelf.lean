/-
  DERIVED: THE SHELF's CONTRACTS AT THIS DUMP, IN PLAIN WORDS (tools/lay-plain.mjs out of 'TryzShelf.lean', which tools/lay-shelf.mjs wrote): THE SAME DECLARATIONS UNDER THE SAME NAMES: 'import', 'namespace', 'open', 'def', 'theorem' AND NOTHING ELSE: no command of the shelf's: FOR A HAND-IN. Each laying: the table of numbers ('.._ren') and one theorem, a field a fact of the dump's own or the kernel's comparison; each contract: ONE APPLICATION.
-/
import Derived.Shelf.Strings.Fields
import Derived.Shelf.Slices.Turned
import Derived.Test.YtcninopmelmajaaGreatDoorProg
namespace Go.Proofs
open Go.Shelf
def Tryz.lays157_ren : Go.Shelf.Ren := ⟨fun | 157 => 125 | 229 => 131 | 199 => 132 | 261 => 133 | 311 => 134 | 312 => 135 | n => n, fun | 9 => 9 | 31 => 49 | 3 => 3 | 5 => 5 | 4 => 4 | 119 => 163 | 0 => 0 | 40 => 165 | 152 => 166 | 21 => 21 | 154 => 168 | 51 => 169 | 141 => 171 | 196 => 175 | 193 => 172 | 198 => 178 | 49 => 176 | 194 => 173 | 201 => 181 | 226 => 183 | 46 => 184 | 227 => 185 | n => n, fun | 0 => 0 | 6 => 1 | n => n⟩
theorem Tryz.lays157 : Go.Proofs.Lays.n157 Tryz.prog Tryz.lays157_ren := {
  mixed := by kernel_rfl
  f157 := Tryz.func125.trans (congrArg some (by kernel_rfl))
  f199 := Tryz.func132.trans (congrArg some (by kernel_rfl))
  f229 := Tryz.func131.trans (congrArg some (by kernel_rfl))
  f261 := Tryz.func133.trans (congrArg some (by kernel_rfl))
  f311 := Tryz.func134.trans (congrArg some (by kernel_rfl))
  f312 := Tryz.func135.trans (congrArg some (by kernel_rfl))
  t0 := Tryz.underlying0
  a0 := Tryz.isAgg0
  z0 := Tryz.sizeOf0
  v0 := Tryz.zeroValue0
  t3 := Tryz.underlying3
  a3 := Tryz.isAgg3
  z3 := Tryz.sizeOf3
  v3 := Tryz.zeroValue3
  t4 := Tryz.underlying4
  a4 := Tryz.isAgg4
  z4 := Tryz.sizeOf4
  v4 := Tryz.zeroValue4
  t5 := Tryz.underlying5
  a5 := Tryz.isAgg5
  z5 := Tryz.sizeOf5
  v5 := Tryz.zeroValue5
  t9 := Tryz.underlying9
  a9 := Tryz.isAgg9
  z9 := Tryz.sizeOf9
  v9 := Tryz.zeroValue9
  t21 := Tryz.underlying21
  a21 := Tryz.isAgg21
  z21 := Tryz.sizeOf21
  v21 := Tryz.zeroValue21
  t31 := Tryz.underlying49
  a31 := Tryz.isAgg49
  z31 := Tryz.sizeOf49
  v31 := Tryz.zeroValue49
  t40 := Tryz.underlying165
  a40 := Tryz.isAgg165
  z40 := Tryz.sizeOf165
  v40 := Tryz.zeroValue165
  t46 := Tryz.underlying184
  a46 := Tryz.isAgg184
  z46 := Tryz.sizeOf184
  v46 := Tryz.zeroValue184
  t49 := Tryz.underlying176
  a49 := Tryz.isAgg176
  z49 := Tryz.sizeOf176
  v49 := Tryz.zeroValue176
  t51 := Tryz.underlying169
  a51 := Tryz.isAgg169
  z51 := Tryz.sizeOf169
  v51 := Tryz.zeroValue169
  t119 := Tryz.underlying163
  a119 := Tryz.isAgg163
  z119 := Tryz.sizeOf163
  t141 := Tryz.underlying171
  a141 := Tryz.isAgg171
  z141 := Tryz.sizeOf171
  v141 := Tryz.zeroValue171
  t152 := Tryz.underlying166
  a152 := Tryz.isAgg166
  z152 := Tryz.sizeOf166
  v152 := Tryz.zeroValue166
  t154 := Tryz.underlying168
  a154 := Tryz.isAgg168
  z154 := Tryz.sizeOf168
  v154 := Tryz.zeroValue168
  t193 := Tryz.underlying172
  a193 := Tryz.isAgg172
  z193 := Tryz.sizeOf172
  v193 := Tryz.zeroValue172
  t194 := Tryz.underlying173
  a194 := Tryz.isAgg173
  z194 := Tryz.sizeOf173
  v194 := Tryz.zeroValue173
  t196 := Tryz.underlying175
  a196 := Tryz.isAgg175
  z196 := Tryz.sizeOf175
  v196 := Tryz.zeroValue175
  t198 := Tryz.underlying178
  a198 := Tryz.isAgg178
  z198 := Tryz.sizeOf178
  v198 := Tryz.zeroValue178
  t201 := Tryz.underlying181
  a201 := Tryz.isAgg181
  z201 := Tryz.sizeOf181
  v201 := Tryz.zeroValue181
  t226 := Tryz.underlying183
  a226 := Tryz.isAgg183
  z226 := Tryz.sizeOf183
  v226 := Tryz.zeroValue183
  t227 := Tryz.underlying185
  a227 := Tryz.isAgg185
  z227 := Tryz.sizeOf185
  v227 := Tryz.zeroValue185
  g0 := by kernel_rfl
  g6 := by kernel_rfl }
open Go.RowKit Go.Lib in
/-- strings.Fields, the table by 'Lib.TabIs' (as strings.TrimSpace's contract). 'hg': the table's number, by its name: at a dump 'by kernel_rfl'. (LAID: no walk: one application.) -/
theorem Tryz.strings_Fields (s : ByteArray) (w : World) (hs : s.size < 4294967281) (hascii : ∀ (j : Nat) b, s.data.toList[j]? = some b → b.toNat < 128) (htab : Lib.TabIs Tryz.prog w "strings.asciiSpace" .u8 Lib.asciiSpaceTab) :
    Calls Tryz.prog 125 #[.string s] w fun e w' =>
      e = .returned (.slice (some ⟨w.heap.size, 0, none⟩) (Lib.fields s.data.toList).length (Lib.fields s.data.toList).length) ∧ w' = w.alloc (.cells ((Lib.fields s.data.toList).map fun l => Value.string ⟨l.toArray⟩).toArray 9) := Any.strings_Fields Tryz.lays157 (by kernel_rfl) (by kernel_rfl) s w hs hascii htab
def Tryz.lays110_ren : Go.Shelf.Ren := ⟨fun | 110 => 124 | 109 => 130 | n => n, fun | 31 => 49 | 9 => 9 | 4 => 4 | 3 => 3 | 0 => 0 | n => n, fun | n => n⟩
theorem Tryz.lays110 : Go.Proofs.Lays.n110 Tryz.prog Tryz.lays110_ren := {
  mixed := by kernel_rfl
  f109 := Tryz.func130.trans (congrArg some (by kernel_rfl))
  f110 := Tryz.func124.trans (congrArg some (by kernel_rfl))
  t0 := Tryz.underlying0
  a0 := Tryz.isAgg0
  z0 := Tryz.sizeOf0
  v0 := Tryz.zeroValue0
  t3 := Tryz.underlying3
  a3 := Tryz.isAgg3
  z3 := Tryz.sizeOf3
  v3 := Tryz.zeroValue3
  t4 := Tryz.underlying4
  a4 := Tryz.isAgg4
  z4 := Tryz.sizeOf4
  v4 := Tryz.zeroValue4
  t9 := Tryz.underlying9
  a9 := Tryz.isAgg9
  z9 := Tryz.sizeOf9
  v9 := Tryz.zeroValue9
  t31 := Tryz.underlying49
  a31 := Tryz.isAgg49
  z31 := Tryz.sizeOf49
  v31 := Tryz.zeroValue49 }
open Go.Lib in
/-- slices.Contains at []string: "Contains reports whether v is present in s.": IT RETURNS 'Lib.containsS (the elements) v', which is true just where v is among them ('Lib.containsS_iff'); the world is as it was. ITS CALLEE slices.Index IS MET BY ITS OWN CONTRACT OFF THE SHELF (lay that first): no loop is walked here. (LAID: no walk: one application.) -/
theorem Tryz.slices_Contains_string (b off n c : Nat) (zs : List ByteArray) (x : ByteArray) (w : World) (hz : n ≤ zs.length) (hbig : n ≤ 9223372036854775807) (hc : ∀ j, j < zs.length → w.cell? ⟨b, off + j, none⟩ = some (.string (zs.getD j ByteArray.empty))) :
    Calls Tryz.prog 124 #[.slice (some ⟨b, off, none⟩) n c, .string x] w fun e w' => e = .returned (.bool (Lib.containsS (zs.take n) x)) ∧ w' = w := Any.slices_Contains_string Tryz.lays110 b off n c zs x w hz hbig hc
end Go.Proofs
