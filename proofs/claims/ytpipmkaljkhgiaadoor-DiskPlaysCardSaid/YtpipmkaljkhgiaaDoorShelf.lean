/-
  DERIVED: THE SHELF's CONTRACTS AT THIS DUMP, IN PLAIN WORDS (tools/lay-plain.mjs out of 'YtpipmkaljkhgiaaDoorShelf.lean', which tools/lay-shelf.mjs wrote): THE SAME DECLARATIONS UNDER THE SAME NAMES: 'import', 'namespace', 'open', 'def', 'theorem' AND NOTHING ELSE: no command of the shelf's: FOR A HAND-IN. Each laying: the table of numbers ('.._ren') and one theorem, a field a fact of the dump's own or the kernel's comparison; each contract: ONE APPLICATION.
-/
import Derived.Shelf.Strings.SlTrimAscii
import Derived.Test.YtpipmkaljkhgiaaDoorProg
namespace Go.Proofs
open Go.Shelf
def Tryd.lays160_ren : Go.Shelf.Ren := ⟨fun | 160 => 47 | 232 => 59 | 231 => 58 | 227 => 60 | 234 => 62 | 233 => 61 | 236 => 64 | 235 => 63 | 228 => 68 | 271 => 71 | 151 => 70 | 197 => 69 | 120 => 85 | 152 => 84 | 260 => 83 | 137 => 92 | 119 => 93 | 224 => 94 | 225 => 95 | 217 => 97 | 266 => 98 | n => n, fun | 9 => 9 | 4 => 4 | 3 => 3 | 5 => 5 | 117 => 86 | 116 => 85 | 0 => 0 | 124 => 89 | 21 => 21 | 105 => 95 | 46 => 93 | 119 => 118 | 139 => 121 | 138 => 120 | n => n, fun | 3 => 0 | 4 => 1 | n => n⟩
theorem Tryd.lays160 : Go.Proofs.Lays.n160 Tryd.prog Tryd.lays160_ren := {
  mixed := by kernel_rfl
  f119 := Tryd.func93.trans (congrArg some (by kernel_rfl))
  f120 := Tryd.func85.trans (congrArg some (by kernel_rfl))
  f137 := Tryd.func92.trans (congrArg some (by kernel_rfl))
  f151 := Tryd.func70.trans (congrArg some (by kernel_rfl))
  f152 := Tryd.func84.trans (congrArg some (by kernel_rfl))
  f160 := Tryd.func47.trans (congrArg some (by kernel_rfl))
  f197 := Tryd.func69.trans (congrArg some (by kernel_rfl))
  f217 := Tryd.func97.trans (congrArg some (by kernel_rfl))
  f224 := Tryd.func94.trans (congrArg some (by kernel_rfl))
  f225 := Tryd.func95.trans (congrArg some (by kernel_rfl))
  f227 := Tryd.func60.trans (congrArg some (by kernel_rfl))
  f228 := Tryd.func68.trans (congrArg some (by kernel_rfl))
  f231 := Tryd.func58.trans (congrArg some (by kernel_rfl))
  f232 := Tryd.func59.trans (congrArg some (by kernel_rfl))
  f233 := Tryd.func61.trans (congrArg some (by kernel_rfl))
  f234 := Tryd.func62.trans (congrArg some (by kernel_rfl))
  f235 := Tryd.func63.trans (congrArg some (by kernel_rfl))
  f236 := Tryd.func64.trans (congrArg some (by kernel_rfl))
  f260 := Tryd.func83.trans (congrArg some (by kernel_rfl))
  f266 := Tryd.func98.trans (congrArg some (by kernel_rfl))
  f271 := Tryd.func71.trans (congrArg some (by kernel_rfl))
  t0 := Tryd.underlying0
  a0 := Tryd.isAgg0
  z0 := Tryd.sizeOf0
  v0 := Tryd.zeroValue0
  t3 := Tryd.underlying3
  a3 := Tryd.isAgg3
  z3 := Tryd.sizeOf3
  v3 := Tryd.zeroValue3
  t4 := Tryd.underlying4
  a4 := Tryd.isAgg4
  z4 := Tryd.sizeOf4
  v4 := Tryd.zeroValue4
  t5 := Tryd.underlying5
  a5 := Tryd.isAgg5
  z5 := Tryd.sizeOf5
  v5 := Tryd.zeroValue5
  t9 := Tryd.underlying9
  a9 := Tryd.isAgg9
  z9 := Tryd.sizeOf9
  v9 := Tryd.zeroValue9
  t21 := Tryd.underlying21
  a21 := Tryd.isAgg21
  z21 := Tryd.sizeOf21
  v21 := Tryd.zeroValue21
  t46 := Tryd.underlying93
  a46 := Tryd.isAgg93
  z46 := Tryd.sizeOf93
  v46 := Tryd.zeroValue93
  t105 := Tryd.underlying95
  a105 := Tryd.isAgg95
  z105 := Tryd.sizeOf95
  v105 := Tryd.zeroValue95
  t116 := Tryd.underlying85
  a116 := Tryd.isAgg85
  z116 := Tryd.sizeOf85
  t117 := Tryd.underlying86
  a117 := Tryd.isAgg86
  z117 := Tryd.sizeOf86
  v117 := Tryd.zeroValue86
  t119 := Tryd.underlying118
  a119 := Tryd.isAgg118
  z119 := Tryd.sizeOf118
  t124 := Tryd.underlying89
  a124 := Tryd.isAgg89
  z124 := Tryd.sizeOf89
  v124 := Tryd.zeroValue89
  t138 := Tryd.underlying120
  a138 := Tryd.isAgg120
  z138 := Tryd.sizeOf120
  v138 := Tryd.zeroValue120
  t139 := Tryd.underlying121
  a139 := Tryd.isAgg121
  z139 := Tryd.sizeOf121
  v139 := Tryd.zeroValue121
  g3 := by kernel_rfl
  g4 := by kernel_rfl }
open Go.RowKit in
theorem Tryd.strings_Trim_set (s cutset : ByteArray) (w : World) (hs : s.size ≤ 9223372036854775807) (hcs : cutset.size < 4294967281) (hascii : ∀ (j : Nat) b, cutset.data.toList[j]? = some b → b.toNat < 128) :
    Calls Tryd.prog 47 #[.string s, .string cutset] w fun e w' => e = .returned (.string ⟨(Lib.trimS s.data.toList cutset.data.toList).toArray⟩) ∧ Below w.heap.size w w' := Any.strings_Trim_laid Tryd.lays160 (by kernel_rfl) s cutset w hs hcs hascii
end Go.Proofs
