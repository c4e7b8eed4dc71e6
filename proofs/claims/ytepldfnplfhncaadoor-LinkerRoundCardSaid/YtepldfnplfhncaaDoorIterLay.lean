/-
  DERIVED: THE SHELF's CONTRACTS AT THIS DUMP, IN PLAIN WORDS (tools/lay-plain.mjs out of 'TrydIter.lean', which tools/lay-shelf.mjs wrote): THE SAME DECLARATIONS UNDER THE SAME NAMES: 'import', 'namespace', 'open', 'def', 'theorem' AND NOTHING ELSE: no command of the shelf's: FOR A HAND-IN. Each laying: the table of numbers ('.._ren') and one theorem, a field a fact of the dump's own or the kernel's comparison; each contract: ONE APPLICATION.
-/
import Derived.Shelf.SlGeneric
import Derived.Shelf.SlIter.Nil
import Derived.Shelf.SortM.Plain
import Derived.Shelf.SortM.SortNone
import Derived.Ground.GgzProg
import Derived.Ground.SlgmProg
import Derived.Test.YtepldfnplfhncaaDoorProg
namespace Go.Proofs
open Go.Shelf
def Tryd.keys49_ren : Go.Shelf.Ren := ⟨fun | 7 => 49 | 10 => 54 | n => n, fun | 23 => 114 | 26 => 9 | 3 => 4 | 28 => 128 | 0 => 0 | 27 => 127 | 33 => 75 | 4 => 4 | n => n, fun | n => n⟩
theorem Tryd.keys49 : Go.Proofs.SlLaysZ.n7 Tryd.prog Tryd.keys49_ren := {
  mixed := by kernel_rfl
  f7 := ⟨Tryd.f49.name, by decide, Tryd.func49.trans (congrArg some (by kernel_rfl))⟩
  f10 := ⟨Tryd.f54.name, by decide, Tryd.func54.trans (congrArg some (by kernel_rfl))⟩
  t0 := Tryd.underlying0
  a0 := Tryd.isAgg0
  z0 := Tryd.sizeOf0
  v0 := Tryd.zeroValue0
  t4 := Tryd.underlying4
  a4 := Tryd.isAgg4
  z4 := Tryd.sizeOf4
  v4 := Tryd.zeroValue4
  t23 := Tryd.underlying114
  a23 := Tryd.isAgg114
  z23 := Tryd.sizeOf114
  v23 := Tryd.zeroValue114
  t26 := Tryd.underlying9
  a26 := Tryd.isAgg9
  z26 := Tryd.sizeOf9
  v26 := Tryd.zeroValue9
  t27 := Tryd.underlying127
  a27 := Tryd.isAgg127
  z27 := Tryd.sizeOf127
  v27 := Tryd.zeroValue127
  t28 := Tryd.underlying128
  a28 := Tryd.isAgg128
  z28 := Tryd.sizeOf128
  v28 := Tryd.zeroValue128
  t33 := Tryd.underlying75
  a33 := Tryd.isAgg75
  z33 := Tryd.sizeOf75
  v33 := Tryd.zeroValue75 }
def Tryd.sorted48_ren : Go.Shelf.Ren := ⟨fun | 6 => 48 | 8 => 52 | 9 => 53 | 11 => 62 | 13 => 64 | 12 => 63 | 23 => 81 | 24 => 82 | 14 => 72 | 15 => 73 | 16 => 74 | 17 => 75 | 18 => 76 | 19 => 77 | 20 => 78 | 21 => 79 | 22 => 80 | 25 => 83 | 26 => 84 | 27 => 85 | 28 => 86 | 29 => 87 | 30 => 88 | 31 => 89 | n => n, fun | 26 => 9 | 28 => 128 | 24 => 116 | 0 => 0 | 3 => 3 | 37 => 99 | 48 => 73 | 50 => 158 | 4 => 4 | 40 => 150 | 39 => 149 | 45 => 108 | 5 => 5 | 9 => 9 | 51 => 159 | 55 => 105 | 57 => 164 | 58 => 103 | 33 => 75 | n => n, fun | n => n⟩
theorem Tryd.sorted48 : Go.Proofs.SlLaysZ.n6 Tryd.prog Tryd.sorted48_ren := {
  mixed := by kernel_rfl
  f6 := ⟨Tryd.f48.name, by decide, Tryd.func48.trans (congrArg some (by kernel_rfl))⟩
  f8 := ⟨Tryd.f52.name, by decide, Tryd.func52.trans (congrArg some (by kernel_rfl))⟩
  f11 := ⟨Tryd.f62.name, by decide, Tryd.func62.trans (congrArg some (by kernel_rfl))⟩
  t0 := Tryd.underlying0
  a0 := Tryd.isAgg0
  z0 := Tryd.sizeOf0
  v0 := Tryd.zeroValue0
  t24 := Tryd.underlying116
  a24 := Tryd.isAgg116
  z24 := Tryd.sizeOf116
  v24 := Tryd.zeroValue116
  t26 := Tryd.underlying9
  a26 := Tryd.isAgg9
  z26 := Tryd.sizeOf9
  v26 := Tryd.zeroValue9
  t28 := Tryd.underlying128
  a28 := Tryd.isAgg128
  z28 := Tryd.sizeOf128
  v28 := Tryd.zeroValue128
  i26 := by kernel_rfl }
def Tryd.sort53_ren : Go.Shelf.Ren := ⟨fun | 6 => 53 | 8 => 64 | 9 => 63 | 19 => 81 | 20 => 82 | 21 => 72 | 22 => 73 | 23 => 74 | 24 => 75 | 25 => 76 | 26 => 77 | 27 => 78 | 28 => 79 | 29 => 80 | 36 => 83 | 31 => 84 | 32 => 85 | 37 => 86 | 38 => 87 | 39 => 88 | 41 => 89 | n => n, fun | 27 => 116 | 29 => 9 | 3 => 3 | 32 => 99 | 26 => 116 | 0 => 0 | 44 => 73 | 46 => 158 | 4 => 4 | 36 => 150 | 35 => 149 | 41 => 108 | 5 => 5 | 9 => 9 | 53 => 159 | 57 => 105 | 63 => 164 | 64 => 103 | n => n, fun | n => n⟩
theorem Tryd.sort53 : Go.Proofs.SlLaysM.n6 Tryd.prog Tryd.sort53_ren := {
  mixed := by kernel_rfl
  f6 := ⟨Tryd.f53.name, by decide, Tryd.func53.trans (congrArg some (by kernel_rfl))⟩
  f8 := Tryd.func64.trans (congrArg some (by kernel_rfl))
  f9 := ⟨Tryd.f63.name, by decide, Tryd.func63.trans (congrArg some (by kernel_rfl))⟩
  f19 := Tryd.func81.trans (congrArg some (by kernel_rfl))
  f20 := Tryd.func82.trans (congrArg some (by kernel_rfl))
  f21 := ⟨Tryd.f72.name, by decide, Tryd.func72.trans (congrArg some (by kernel_rfl))⟩
  f22 := ⟨Tryd.f73.name, by decide, Tryd.func73.trans (congrArg some (by kernel_rfl))⟩
  f23 := ⟨Tryd.f74.name, by decide, Tryd.func74.trans (congrArg some (by kernel_rfl))⟩
  f24 := ⟨Tryd.f75.name, by decide, Tryd.func75.trans (congrArg some (by kernel_rfl))⟩
  f25 := ⟨Tryd.f76.name, by decide, Tryd.func76.trans (congrArg some (by kernel_rfl))⟩
  f26 := ⟨Tryd.f77.name, by decide, Tryd.func77.trans (congrArg some (by kernel_rfl))⟩
  f27 := ⟨Tryd.f78.name, by decide, Tryd.func78.trans (congrArg some (by kernel_rfl))⟩
  f28 := ⟨Tryd.f79.name, by decide, Tryd.func79.trans (congrArg some (by kernel_rfl))⟩
  f29 := ⟨Tryd.f80.name, by decide, Tryd.func80.trans (congrArg some (by kernel_rfl))⟩
  f31 := Tryd.func84.trans (congrArg some (by kernel_rfl))
  f32 := Tryd.func85.trans (congrArg some (by kernel_rfl))
  f36 := ⟨Tryd.f83.name, by decide, Tryd.func83.trans (congrArg some (by kernel_rfl))⟩
  f37 := ⟨Tryd.f86.name, by decide, Tryd.func86.trans (congrArg some (by kernel_rfl))⟩
  f38 := ⟨Tryd.f87.name, by decide, Tryd.func87.trans (congrArg some (by kernel_rfl))⟩
  f39 := ⟨Tryd.f88.name, by decide, Tryd.func88.trans (congrArg some (by kernel_rfl))⟩
  f41 := ⟨Tryd.f89.name, by decide, Tryd.func89.trans (congrArg some (by kernel_rfl))⟩
  t0 := Tryd.underlying0
  a0 := Tryd.isAgg0
  z0 := Tryd.sizeOf0
  v0 := Tryd.zeroValue0
  t3 := Tryd.underlying3
  a3 := Tryd.isAgg3
  z3 := Tryd.sizeOf3
  v3 := Tryd.zeroValue3
  t4 := Tryd.underlying4
  a4 := Tryd.isAgg4
  z4 := Tryd.sizeOf4
  v4 := Tryd.zeroValue4
  t5 := Tryd.underlying5
  a5 := Tryd.isAgg5
  z5 := Tryd.sizeOf5
  v5 := Tryd.zeroValue5
  t9 := Tryd.underlying9
  a9 := Tryd.isAgg9
  z9 := Tryd.sizeOf9
  v9 := Tryd.zeroValue9
  t26 := Tryd.underlying116
  a26 := Tryd.isAgg116
  z26 := Tryd.sizeOf116
  v26 := Tryd.zeroValue116
  t27 := Tryd.underlying116
  a27 := Tryd.isAgg116
  z27 := Tryd.sizeOf116
  v27 := Tryd.zeroValue116
  t29 := Tryd.underlying9
  a29 := Tryd.isAgg9
  z29 := Tryd.sizeOf9
  v29 := Tryd.zeroValue9
  t32 := Tryd.underlying99
  a32 := Tryd.isAgg99
  z32 := Tryd.sizeOf99
  v32 := Tryd.zeroValue99
  t35 := Tryd.underlying149
  a35 := Tryd.isAgg149
  z35 := Tryd.sizeOf149
  v35 := Tryd.zeroValue149
  t36 := Tryd.underlying150
  a36 := Tryd.isAgg150
  z36 := Tryd.sizeOf150
  v36 := Tryd.zeroValue150
  t41 := Tryd.underlying108
  a41 := Tryd.isAgg108
  z41 := Tryd.sizeOf108
  v41 := Tryd.zeroValue108
  t44 := Tryd.underlying73
  a44 := Tryd.isAgg73
  z44 := Tryd.sizeOf73
  v44 := Tryd.zeroValue73
  t46 := Tryd.underlying158
  a46 := Tryd.isAgg158
  z46 := Tryd.sizeOf158
  v46 := Tryd.zeroValue158
  t53 := Tryd.underlying159
  a53 := Tryd.isAgg159
  z53 := Tryd.sizeOf159
  v53 := Tryd.zeroValue159
  t57 := Tryd.underlying105
  a57 := Tryd.isAgg105
  z57 := Tryd.sizeOf105
  v57 := Tryd.zeroValue105
  t63 := Tryd.underlying164
  a63 := Tryd.isAgg164
  z63 := Tryd.sizeOf164
  v63 := Tryd.zeroValue164
  t64 := Tryd.underlying103
  a64 := Tryd.isAgg103
  z64 := Tryd.sizeOf103
  v64 := Tryd.zeroValue103 }
end Go.Proofs
