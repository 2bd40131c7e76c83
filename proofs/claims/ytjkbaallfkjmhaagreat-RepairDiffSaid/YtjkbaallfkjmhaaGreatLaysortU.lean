/-
  DERIVED: THE SHELF's CONTRACTS AT THIS DUMP, IN PLAIN WORDS (tools/lay-plain.mjs out of 'YtjkbaallfkjmhaaGreatSh1.lean', which tools/lay-shelf.mjs wrote): THE SAME DECLARATIONS UNDER THE SAME NAMES: 'import', 'namespace', 'open', 'def', 'theorem' AND NOTHING ELSE: no command of the shelf's: FOR A HAND-IN. Each laying: the table of numbers ('.._ren') and one theorem, a field a fact of the dump's own or the kernel's comparison; each contract: ONE APPLICATION.
-/
import Derived.Shelf.SlGeneric
import Derived.Shelf.SlSortCmp.WholeK
import Derived.Ground.SlsfProg
import Derived.Test.YtjkbaallfkjmhaaGreatProg
namespace Go.Proofs
open Go.Shelf
def Tryz.sortU_ren : Go.Shelf.Ren := ⟨fun | 6 => 22 | 15 => 51 | 14 => 50 | 28 => 77 | 29 => 78 | 20 => 69 | 21 => 70 | 22 => 71 | 23 => 72 | 24 => 73 | 25 => 74 | 26 => 75 | 27 => 76 | 46 => 93 | 47 => 94 | 48 => 95 | 49 => 96 | 50 => 97 | 57 => 104 | n => n, fun | 22 => 24 | 24 => 52 | 25 => 58 | 3 => 3 | 39 => 91 | 0 => 0 | 53 => 116 | 55 => 118 | 4 => 4 | 46 => 110 | 45 => 109 | 50 => 80 | 5 => 5 | 9 => 9 | 66 => 130 | 70 => 134 | 76 => 140 | 77 => 98 | n => n, fun | n => n⟩
theorem Tryz.sortU : Go.Proofs.SlLaysF0.n6 Tryz.prog Tryz.sortU_ren := {
  mixed := by kernel_rfl
  f6 := ⟨Tryz.f22.name, by decide, Tryz.func22.trans (congrArg some (by kernel_rfl))⟩
  f14 := ⟨Tryz.f50.name, by decide, Tryz.func50.trans (congrArg some (by kernel_rfl))⟩
  f15 := Tryz.func51.trans (congrArg some (by kernel_rfl))
  f20 := ⟨Tryz.f69.name, by decide, Tryz.func69.trans (congrArg some (by kernel_rfl))⟩
  f21 := ⟨Tryz.f70.name, by decide, Tryz.func70.trans (congrArg some (by kernel_rfl))⟩
  f22 := ⟨Tryz.f71.name, by decide, Tryz.func71.trans (congrArg some (by kernel_rfl))⟩
  f23 := ⟨Tryz.f72.name, by decide, Tryz.func72.trans (congrArg some (by kernel_rfl))⟩
  f24 := ⟨Tryz.f73.name, by decide, Tryz.func73.trans (congrArg some (by kernel_rfl))⟩
  f25 := ⟨Tryz.f74.name, by decide, Tryz.func74.trans (congrArg some (by kernel_rfl))⟩
  f26 := ⟨Tryz.f75.name, by decide, Tryz.func75.trans (congrArg some (by kernel_rfl))⟩
  f27 := ⟨Tryz.f76.name, by decide, Tryz.func76.trans (congrArg some (by kernel_rfl))⟩
  f28 := Tryz.func77.trans (congrArg some (by kernel_rfl))
  f29 := Tryz.func78.trans (congrArg some (by kernel_rfl))
  f46 := ⟨Tryz.f93.name, by decide, Tryz.func93.trans (congrArg some (by kernel_rfl))⟩
  f47 := Tryz.func94.trans (congrArg some (by kernel_rfl))
  f48 := Tryz.func95.trans (congrArg some (by kernel_rfl))
  f49 := ⟨Tryz.f96.name, by decide, Tryz.func96.trans (congrArg some (by kernel_rfl))⟩
  f50 := ⟨Tryz.f97.name, by decide, Tryz.func97.trans (congrArg some (by kernel_rfl))⟩
  f57 := ⟨Tryz.f104.name, by decide, Tryz.func104.trans (congrArg some (by kernel_rfl))⟩
  t0 := Tryz.underlying0
  a0 := Tryz.isAgg0
  z0 := Tryz.sizeOf0
  v0 := Tryz.zeroValue0
  t3 := Tryz.underlying3
  a3 := Tryz.isAgg3
  z3 := Tryz.sizeOf3
  v3 := Tryz.zeroValue3
  t4 := Tryz.underlying4
  a4 := Tryz.isAgg4
  z4 := Tryz.sizeOf4
  v4 := Tryz.zeroValue4
  t5 := Tryz.underlying5
  a5 := Tryz.isAgg5
  z5 := Tryz.sizeOf5
  v5 := Tryz.zeroValue5
  t9 := Tryz.underlying9
  a9 := Tryz.isAgg9
  z9 := Tryz.sizeOf9
  v9 := Tryz.zeroValue9
  t22 := Tryz.underlying24
  a22 := Tryz.isAgg24
  z22 := Tryz.sizeOf24
  v22 := Tryz.zeroValue24
  t25 := Tryz.underlying58
  a25 := Tryz.isAgg58
  z25 := Tryz.sizeOf58
  v25 := Tryz.zeroValue58
  t39 := Tryz.underlying91
  a39 := Tryz.isAgg91
  z39 := Tryz.sizeOf91
  v39 := Tryz.zeroValue91
  t45 := Tryz.underlying109
  a45 := Tryz.isAgg109
  z45 := Tryz.sizeOf109
  v45 := Tryz.zeroValue109
  t46 := Tryz.underlying110
  a46 := Tryz.isAgg110
  z46 := Tryz.sizeOf110
  v46 := Tryz.zeroValue110
  t50 := Tryz.underlying80
  a50 := Tryz.isAgg80
  z50 := Tryz.sizeOf80
  v50 := Tryz.zeroValue80
  t53 := Tryz.underlying116
  a53 := Tryz.isAgg116
  z53 := Tryz.sizeOf116
  v53 := Tryz.zeroValue116
  t55 := Tryz.underlying118
  a55 := Tryz.isAgg118
  z55 := Tryz.sizeOf118
  v55 := Tryz.zeroValue118
  t66 := Tryz.underlying130
  a66 := Tryz.isAgg130
  z66 := Tryz.sizeOf130
  v66 := Tryz.zeroValue130
  t70 := Tryz.underlying134
  a70 := Tryz.isAgg134
  z70 := Tryz.sizeOf134
  v70 := Tryz.zeroValue134
  t76 := Tryz.underlying140
  a76 := Tryz.isAgg140
  z76 := Tryz.sizeOf140
  v76 := Tryz.zeroValue140
  t77 := Tryz.underlying98
  a77 := Tryz.isAgg98
  z77 := Tryz.sizeOf98
  v77 := Tryz.zeroValue98 }
end Go.Proofs
