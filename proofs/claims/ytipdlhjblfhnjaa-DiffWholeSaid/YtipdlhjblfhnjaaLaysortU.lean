/-
  DERIVED: THE SHELF's CONTRACTS AT THIS DUMP, IN PLAIN WORDS (tools/lay-plain.mjs out of 'YtipdlhjblfhnjaaSh1.lean', which tools/lay-shelf.mjs wrote): THE SAME DECLARATIONS UNDER THE SAME NAMES: 'import', 'namespace', 'open', 'def', 'theorem' AND NOTHING ELSE: no command of the shelf's: FOR A HAND-IN. Each laying: the table of numbers ('.._ren') and one theorem, a field a fact of the dump's own or the kernel's comparison; each contract: ONE APPLICATION.
-/
import Derived.Shelf.SlGeneric
import Derived.Shelf.SlSortCmp.WholeK
import Derived.Ground.SlsfProg
import Derived.Test.YtipdlhjblfhnjaaProg
namespace Go.Proofs
open Go.Shelf
def Try.sortU_ren : Go.Shelf.Ren := ⟨fun | 6 => 37 | 15 => 77 | 14 => 76 | 28 => 106 | 29 => 107 | 20 => 98 | 21 => 99 | 22 => 100 | 23 => 101 | 24 => 102 | 25 => 103 | 26 => 104 | 27 => 105 | 46 => 124 | 47 => 125 | 48 => 126 | 49 => 127 | 50 => 128 | 57 => 135 | n => n, fun | 22 => 27 | 24 => 67 | 25 => 70 | 3 => 3 | 39 => 104 | 0 => 0 | 53 => 127 | 55 => 129 | 4 => 4 | 46 => 121 | 45 => 120 | 50 => 91 | 5 => 5 | 9 => 9 | 66 => 141 | 70 => 145 | 76 => 151 | 77 => 111 | n => n, fun | n => n⟩
theorem Try.sortU : Go.Proofs.SlLaysF0.n6 Try.prog Try.sortU_ren := {
  mixed := by kernel_rfl
  f6 := ⟨Try.f37.name, by decide, Try.func37.trans (congrArg some (by kernel_rfl))⟩
  f14 := ⟨Try.f76.name, by decide, Try.func76.trans (congrArg some (by kernel_rfl))⟩
  f15 := Try.func77.trans (congrArg some (by kernel_rfl))
  f20 := ⟨Try.f98.name, by decide, Try.func98.trans (congrArg some (by kernel_rfl))⟩
  f21 := ⟨Try.f99.name, by decide, Try.func99.trans (congrArg some (by kernel_rfl))⟩
  f22 := ⟨Try.f100.name, by decide, Try.func100.trans (congrArg some (by kernel_rfl))⟩
  f23 := ⟨Try.f101.name, by decide, Try.func101.trans (congrArg some (by kernel_rfl))⟩
  f24 := ⟨Try.f102.name, by decide, Try.func102.trans (congrArg some (by kernel_rfl))⟩
  f25 := ⟨Try.f103.name, by decide, Try.func103.trans (congrArg some (by kernel_rfl))⟩
  f26 := ⟨Try.f104.name, by decide, Try.func104.trans (congrArg some (by kernel_rfl))⟩
  f27 := ⟨Try.f105.name, by decide, Try.func105.trans (congrArg some (by kernel_rfl))⟩
  f28 := Try.func106.trans (congrArg some (by kernel_rfl))
  f29 := Try.func107.trans (congrArg some (by kernel_rfl))
  f46 := ⟨Try.f124.name, by decide, Try.func124.trans (congrArg some (by kernel_rfl))⟩
  f47 := Try.func125.trans (congrArg some (by kernel_rfl))
  f48 := Try.func126.trans (congrArg some (by kernel_rfl))
  f49 := ⟨Try.f127.name, by decide, Try.func127.trans (congrArg some (by kernel_rfl))⟩
  f50 := ⟨Try.f128.name, by decide, Try.func128.trans (congrArg some (by kernel_rfl))⟩
  f57 := ⟨Try.f135.name, by decide, Try.func135.trans (congrArg some (by kernel_rfl))⟩
  t0 := Try.underlying0
  a0 := Try.isAgg0
  z0 := Try.sizeOf0
  v0 := Try.zeroValue0
  t3 := Try.underlying3
  a3 := Try.isAgg3
  z3 := Try.sizeOf3
  v3 := Try.zeroValue3
  t4 := Try.underlying4
  a4 := Try.isAgg4
  z4 := Try.sizeOf4
  v4 := Try.zeroValue4
  t5 := Try.underlying5
  a5 := Try.isAgg5
  z5 := Try.sizeOf5
  v5 := Try.zeroValue5
  t9 := Try.underlying9
  a9 := Try.isAgg9
  z9 := Try.sizeOf9
  v9 := Try.zeroValue9
  t22 := Try.underlying27
  a22 := Try.isAgg27
  z22 := Try.sizeOf27
  v22 := Try.zeroValue27
  t25 := Try.underlying70
  a25 := Try.isAgg70
  z25 := Try.sizeOf70
  v25 := Try.zeroValue70
  t39 := Try.underlying104
  a39 := Try.isAgg104
  z39 := Try.sizeOf104
  v39 := Try.zeroValue104
  t45 := Try.underlying120
  a45 := Try.isAgg120
  z45 := Try.sizeOf120
  v45 := Try.zeroValue120
  t46 := Try.underlying121
  a46 := Try.isAgg121
  z46 := Try.sizeOf121
  v46 := Try.zeroValue121
  t50 := Try.underlying91
  a50 := Try.isAgg91
  z50 := Try.sizeOf91
  v50 := Try.zeroValue91
  t53 := Try.underlying127
  a53 := Try.isAgg127
  z53 := Try.sizeOf127
  v53 := Try.zeroValue127
  t55 := Try.underlying129
  a55 := Try.isAgg129
  z55 := Try.sizeOf129
  v55 := Try.zeroValue129
  t66 := Try.underlying141
  a66 := Try.isAgg141
  z66 := Try.sizeOf141
  v66 := Try.zeroValue141
  t70 := Try.underlying145
  a70 := Try.isAgg145
  z70 := Try.sizeOf145
  v70 := Try.zeroValue145
  t76 := Try.underlying151
  a76 := Try.isAgg151
  z76 := Try.sizeOf151
  v76 := Try.zeroValue151
  t77 := Try.underlying111
  a77 := Try.isAgg111
  z77 := Try.sizeOf111
  v77 := Try.zeroValue111 }
end Go.Proofs
