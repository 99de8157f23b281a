/-
  DERIVED: THE SHELF's CONTRACTS AT THIS DUMP, IN PLAIN WORDS (tools/lay-plain.mjs out of 'TrydShelf.lean', which tools/lay-shelf.mjs wrote): THE SAME DECLARATIONS UNDER THE SAME NAMES: 'import', 'namespace', 'open', 'def', 'theorem' AND NOTHING ELSE: no command of the shelf's: FOR A HAND-IN. Each laying: the table of numbers ('.._ren') and one theorem, a field a fact of the dump's own or the kernel's comparison; each contract: ONE APPLICATION.
-/
import Derived.Shelf.Strings.Fields
import Derived.Test.YtipaaapbapijhaaDoorProg
namespace Go.Proofs
open Go.Shelf
def Tryd.lays157_ren : Go.Shelf.Ren := ⟨fun | 157 => 25 | 229 => 26 | 199 => 27 | 261 => 28 | 311 => 29 | 312 => 30 | n => n, fun | 9 => 9 | 31 => 36 | 3 => 3 | 5 => 5 | 4 => 4 | 119 => 41 | 0 => 0 | 40 => 43 | 152 => 44 | 21 => 21 | 154 => 46 | 51 => 47 | 141 => 49 | 196 => 53 | 193 => 50 | 198 => 56 | 49 => 54 | 194 => 51 | 201 => 59 | 226 => 61 | 46 => 62 | 227 => 63 | n => n, fun | 0 => 0 | 6 => 1 | n => n⟩
theorem Tryd.lays157 : Go.Proofs.Lays.n157 Tryd.prog Tryd.lays157_ren := {
  mixed := by kernel_rfl
  f157 := Tryd.func25.trans (congrArg some (by kernel_rfl))
  f199 := Tryd.func27.trans (congrArg some (by kernel_rfl))
  f229 := Tryd.func26.trans (congrArg some (by kernel_rfl))
  f261 := Tryd.func28.trans (congrArg some (by kernel_rfl))
  f311 := Tryd.func29.trans (congrArg some (by kernel_rfl))
  f312 := Tryd.func30.trans (congrArg some (by kernel_rfl))
  t0 := Tryd.underlying0
  a0 := Tryd.isAgg0
  z0 := Tryd.sizeOf0
  v0 := Tryd.zeroValue0
  t3 := Tryd.underlying3
  a3 := Tryd.isAgg3
  z3 := Tryd.sizeOf3
  v3 := Tryd.zeroValue3
  t4 := Tryd.underlying4
  a4 := Tryd.isAgg4
  z4 := Tryd.sizeOf4
  v4 := Tryd.zeroValue4
  t5 := Tryd.underlying5
  a5 := Tryd.isAgg5
  z5 := Tryd.sizeOf5
  v5 := Tryd.zeroValue5
  t9 := Tryd.underlying9
  a9 := Tryd.isAgg9
  z9 := Tryd.sizeOf9
  v9 := Tryd.zeroValue9
  t21 := Tryd.underlying21
  a21 := Tryd.isAgg21
  z21 := Tryd.sizeOf21
  v21 := Tryd.zeroValue21
  t31 := Tryd.underlying36
  a31 := Tryd.isAgg36
  z31 := Tryd.sizeOf36
  v31 := Tryd.zeroValue36
  t40 := Tryd.underlying43
  a40 := Tryd.isAgg43
  z40 := Tryd.sizeOf43
  v40 := Tryd.zeroValue43
  t46 := Tryd.underlying62
  a46 := Tryd.isAgg62
  z46 := Tryd.sizeOf62
  v46 := Tryd.zeroValue62
  t49 := Tryd.underlying54
  a49 := Tryd.isAgg54
  z49 := Tryd.sizeOf54
  v49 := Tryd.zeroValue54
  t51 := Tryd.underlying47
  a51 := Tryd.isAgg47
  z51 := Tryd.sizeOf47
  v51 := Tryd.zeroValue47
  t119 := Tryd.underlying41
  a119 := Tryd.isAgg41
  z119 := Tryd.sizeOf41
  t141 := Tryd.underlying49
  a141 := Tryd.isAgg49
  z141 := Tryd.sizeOf49
  v141 := Tryd.zeroValue49
  t152 := Tryd.underlying44
  a152 := Tryd.isAgg44
  z152 := Tryd.sizeOf44
  v152 := Tryd.zeroValue44
  t154 := Tryd.underlying46
  a154 := Tryd.isAgg46
  z154 := Tryd.sizeOf46
  v154 := Tryd.zeroValue46
  t193 := Tryd.underlying50
  a193 := Tryd.isAgg50
  z193 := Tryd.sizeOf50
  v193 := Tryd.zeroValue50
  t194 := Tryd.underlying51
  a194 := Tryd.isAgg51
  z194 := Tryd.sizeOf51
  v194 := Tryd.zeroValue51
  t196 := Tryd.underlying53
  a196 := Tryd.isAgg53
  z196 := Tryd.sizeOf53
  v196 := Tryd.zeroValue53
  t198 := Tryd.underlying56
  a198 := Tryd.isAgg56
  z198 := Tryd.sizeOf56
  v198 := Tryd.zeroValue56
  t201 := Tryd.underlying59
  a201 := Tryd.isAgg59
  z201 := Tryd.sizeOf59
  v201 := Tryd.zeroValue59
  t226 := Tryd.underlying61
  a226 := Tryd.isAgg61
  z226 := Tryd.sizeOf61
  v226 := Tryd.zeroValue61
  t227 := Tryd.underlying63
  a227 := Tryd.isAgg63
  z227 := Tryd.sizeOf63
  v227 := Tryd.zeroValue63
  g0 := by kernel_rfl
  g6 := by kernel_rfl }
open Go.RowKit Go.Lib in
/-- strings.Fields, the table by 'Lib.TabIs' (as strings.TrimSpace's contract). 'hg': the table's number, by its name: at a dump 'by kernel_rfl'. (LAID: no walk: one application.) -/
theorem Tryd.strings_Fields (s : ByteArray) (w : World) (hs : s.size < 4294967281) (hascii : ∀ (j : Nat) b, s.data.toList[j]? = some b → b.toNat < 128) (htab : Lib.TabIs Tryd.prog w "strings.asciiSpace" .u8 Lib.asciiSpaceTab) :
    Calls Tryd.prog 25 #[.string s] w fun e w' =>
      e = .returned (.slice (some ⟨w.heap.size, 0, none⟩) (Lib.fields s.data.toList).length (Lib.fields s.data.toList).length) ∧ w' = w.alloc (.cells ((Lib.fields s.data.toList).map fun l => Value.string ⟨l.toArray⟩).toArray 9) := Any.strings_Fields Tryd.lays157 (by kernel_rfl) (by kernel_rfl) s w hs hascii htab
end Go.Proofs
