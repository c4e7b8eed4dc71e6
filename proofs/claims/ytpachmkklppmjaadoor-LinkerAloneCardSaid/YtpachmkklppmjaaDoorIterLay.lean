/-
  DERIVED: THE SHELF's CONTRACTS AT THIS DUMP, IN PLAIN WORDS (tools/lay-plain.mjs out of 'TrydIter.lean', which tools/lay-shelf.mjs wrote): THE SAME DECLARATIONS UNDER THE SAME NAMES: 'import', 'namespace', 'open', 'def', 'theorem' AND NOTHING ELSE: no command of the shelf's: FOR A HAND-IN. Each laying: the table of numbers ('.._ren') and one theorem, a field a fact of the dump's own or the kernel's comparison; each contract: ONE APPLICATION.
-/
import Derived.Shelf.SlGeneric
import Derived.Shelf.SlIter.Nil
import Derived.Shelf.SortM.Plain
import Derived.Shelf.SortM.SortNone
import Derived.Ground.GgzProg
import Derived.Ground.SlgmProg
import Derived.Test.YtpachmkklppmjaaDoorProg
namespace Go.Proofs
open Go.Shelf
def Tryd.keys26_ren : Go.Shelf.Ren := ⟨fun | 7 => 26 | 10 => 32 | n => n, fun | 23 => 82 | 26 => 9 | 3 => 4 | 28 => 98 | 0 => 0 | 27 => 97 | 33 => 84 | 4 => 4 | n => n, fun | n => n⟩
theorem Tryd.keys26 : Go.Proofs.SlLaysZ.n7 Tryd.prog Tryd.keys26_ren := {
  mixed := by kernel_rfl
  f7 := ⟨Tryd.f26.name, by decide, Tryd.func26.trans (congrArg some (by kernel_rfl))⟩
  f10 := ⟨Tryd.f32.name, by decide, Tryd.func32.trans (congrArg some (by kernel_rfl))⟩
  t0 := Tryd.underlying0
  a0 := Tryd.isAgg0
  z0 := Tryd.sizeOf0
  v0 := Tryd.zeroValue0
  t4 := Tryd.underlying4
  a4 := Tryd.isAgg4
  z4 := Tryd.sizeOf4
  v4 := Tryd.zeroValue4
  t23 := Tryd.underlying82
  a23 := Tryd.isAgg82
  z23 := Tryd.sizeOf82
  v23 := Tryd.zeroValue82
  t26 := Tryd.underlying9
  a26 := Tryd.isAgg9
  z26 := Tryd.sizeOf9
  v26 := Tryd.zeroValue9
  t27 := Tryd.underlying97
  a27 := Tryd.isAgg97
  z27 := Tryd.sizeOf97
  v27 := Tryd.zeroValue97
  t28 := Tryd.underlying98
  a28 := Tryd.isAgg98
  z28 := Tryd.sizeOf98
  v28 := Tryd.zeroValue98
  t33 := Tryd.underlying84
  a33 := Tryd.isAgg84
  z33 := Tryd.sizeOf84
  v33 := Tryd.zeroValue84 }
def Tryd.sorted25_ren : Go.Shelf.Ren := ⟨fun | 6 => 25 | 8 => 30 | 9 => 31 | 11 => 40 | 13 => 42 | 12 => 41 | 23 => 59 | 24 => 60 | 14 => 50 | 15 => 51 | 16 => 52 | 17 => 53 | 18 => 54 | 19 => 55 | 20 => 56 | 21 => 57 | 22 => 58 | 25 => 61 | 26 => 62 | 27 => 63 | 28 => 64 | 29 => 65 | 30 => 66 | 31 => 67 | n => n, fun | 26 => 9 | 28 => 98 | 24 => 85 | 0 => 0 | 3 => 3 | 37 => 73 | 48 => 60 | 50 => 129 | 4 => 4 | 40 => 121 | 39 => 120 | 45 => 94 | 5 => 5 | 9 => 9 | 51 => 130 | 55 => 79 | 57 => 135 | 58 => 77 | 33 => 84 | n => n, fun | n => n⟩
theorem Tryd.sorted25 : Go.Proofs.SlLaysZ.n6 Tryd.prog Tryd.sorted25_ren := {
  mixed := by kernel_rfl
  f6 := ⟨Tryd.f25.name, by decide, Tryd.func25.trans (congrArg some (by kernel_rfl))⟩
  f8 := ⟨Tryd.f30.name, by decide, Tryd.func30.trans (congrArg some (by kernel_rfl))⟩
  f11 := ⟨Tryd.f40.name, by decide, Tryd.func40.trans (congrArg some (by kernel_rfl))⟩
  t0 := Tryd.underlying0
  a0 := Tryd.isAgg0
  z0 := Tryd.sizeOf0
  v0 := Tryd.zeroValue0
  t24 := Tryd.underlying85
  a24 := Tryd.isAgg85
  z24 := Tryd.sizeOf85
  v24 := Tryd.zeroValue85
  t26 := Tryd.underlying9
  a26 := Tryd.isAgg9
  z26 := Tryd.sizeOf9
  v26 := Tryd.zeroValue9
  t28 := Tryd.underlying98
  a28 := Tryd.isAgg98
  z28 := Tryd.sizeOf98
  v28 := Tryd.zeroValue98
  i26 := by kernel_rfl }
def Tryd.sort31_ren : Go.Shelf.Ren := ⟨fun | 6 => 31 | 8 => 42 | 9 => 41 | 19 => 59 | 20 => 60 | 21 => 50 | 22 => 51 | 23 => 52 | 24 => 53 | 25 => 54 | 26 => 55 | 27 => 56 | 28 => 57 | 29 => 58 | 36 => 61 | 31 => 62 | 32 => 63 | 37 => 64 | 38 => 65 | 39 => 66 | 41 => 67 | n => n, fun | 27 => 85 | 29 => 9 | 3 => 3 | 32 => 73 | 26 => 85 | 0 => 0 | 44 => 60 | 46 => 129 | 4 => 4 | 36 => 121 | 35 => 120 | 41 => 94 | 5 => 5 | 9 => 9 | 53 => 130 | 57 => 79 | 63 => 135 | 64 => 77 | n => n, fun | n => n⟩
theorem Tryd.sort31 : Go.Proofs.SlLaysM.n6 Tryd.prog Tryd.sort31_ren := {
  mixed := by kernel_rfl
  f6 := ⟨Tryd.f31.name, by decide, Tryd.func31.trans (congrArg some (by kernel_rfl))⟩
  f8 := Tryd.func42.trans (congrArg some (by kernel_rfl))
  f9 := ⟨Tryd.f41.name, by decide, Tryd.func41.trans (congrArg some (by kernel_rfl))⟩
  f19 := Tryd.func59.trans (congrArg some (by kernel_rfl))
  f20 := Tryd.func60.trans (congrArg some (by kernel_rfl))
  f21 := ⟨Tryd.f50.name, by decide, Tryd.func50.trans (congrArg some (by kernel_rfl))⟩
  f22 := ⟨Tryd.f51.name, by decide, Tryd.func51.trans (congrArg some (by kernel_rfl))⟩
  f23 := ⟨Tryd.f52.name, by decide, Tryd.func52.trans (congrArg some (by kernel_rfl))⟩
  f24 := ⟨Tryd.f53.name, by decide, Tryd.func53.trans (congrArg some (by kernel_rfl))⟩
  f25 := ⟨Tryd.f54.name, by decide, Tryd.func54.trans (congrArg some (by kernel_rfl))⟩
  f26 := ⟨Tryd.f55.name, by decide, Tryd.func55.trans (congrArg some (by kernel_rfl))⟩
  f27 := ⟨Tryd.f56.name, by decide, Tryd.func56.trans (congrArg some (by kernel_rfl))⟩
  f28 := ⟨Tryd.f57.name, by decide, Tryd.func57.trans (congrArg some (by kernel_rfl))⟩
  f29 := ⟨Tryd.f58.name, by decide, Tryd.func58.trans (congrArg some (by kernel_rfl))⟩
  f31 := Tryd.func62.trans (congrArg some (by kernel_rfl))
  f32 := Tryd.func63.trans (congrArg some (by kernel_rfl))
  f36 := ⟨Tryd.f61.name, by decide, Tryd.func61.trans (congrArg some (by kernel_rfl))⟩
  f37 := ⟨Tryd.f64.name, by decide, Tryd.func64.trans (congrArg some (by kernel_rfl))⟩
  f38 := ⟨Tryd.f65.name, by decide, Tryd.func65.trans (congrArg some (by kernel_rfl))⟩
  f39 := ⟨Tryd.f66.name, by decide, Tryd.func66.trans (congrArg some (by kernel_rfl))⟩
  f41 := ⟨Tryd.f67.name, by decide, Tryd.func67.trans (congrArg some (by kernel_rfl))⟩
  t0 := Tryd.underlying0
  a0 := Tryd.isAgg0
  z0 := Tryd.sizeOf0
  v0 := Tryd.zeroValue0
  t3 := Tryd.underlying3
  a3 := Tryd.isAgg3
  z3 := Tryd.sizeOf3
  v3 := Tryd.zeroValue3
  t4 := Tryd.underlying4
  a4 := Tryd.isAgg4
  z4 := Tryd.sizeOf4
  v4 := Tryd.zeroValue4
  t5 := Tryd.underlying5
  a5 := Tryd.isAgg5
  z5 := Tryd.sizeOf5
  v5 := Tryd.zeroValue5
  t9 := Tryd.underlying9
  a9 := Tryd.isAgg9
  z9 := Tryd.sizeOf9
  v9 := Tryd.zeroValue9
  t26 := Tryd.underlying85
  a26 := Tryd.isAgg85
  z26 := Tryd.sizeOf85
  v26 := Tryd.zeroValue85
  t27 := Tryd.underlying85
  a27 := Tryd.isAgg85
  z27 := Tryd.sizeOf85
  v27 := Tryd.zeroValue85
  t29 := Tryd.underlying9
  a29 := Tryd.isAgg9
  z29 := Tryd.sizeOf9
  v29 := Tryd.zeroValue9
  t32 := Tryd.underlying73
  a32 := Tryd.isAgg73
  z32 := Tryd.sizeOf73
  v32 := Tryd.zeroValue73
  t35 := Tryd.underlying120
  a35 := Tryd.isAgg120
  z35 := Tryd.sizeOf120
  v35 := Tryd.zeroValue120
  t36 := Tryd.underlying121
  a36 := Tryd.isAgg121
  z36 := Tryd.sizeOf121
  v36 := Tryd.zeroValue121
  t41 := Tryd.underlying94
  a41 := Tryd.isAgg94
  z41 := Tryd.sizeOf94
  v41 := Tryd.zeroValue94
  t44 := Tryd.underlying60
  a44 := Tryd.isAgg60
  z44 := Tryd.sizeOf60
  v44 := Tryd.zeroValue60
  t46 := Tryd.underlying129
  a46 := Tryd.isAgg129
  z46 := Tryd.sizeOf129
  v46 := Tryd.zeroValue129
  t53 := Tryd.underlying130
  a53 := Tryd.isAgg130
  z53 := Tryd.sizeOf130
  v53 := Tryd.zeroValue130
  t57 := Tryd.underlying79
  a57 := Tryd.isAgg79
  z57 := Tryd.sizeOf79
  v57 := Tryd.zeroValue79
  t63 := Tryd.underlying135
  a63 := Tryd.isAgg135
  z63 := Tryd.sizeOf135
  v63 := Tryd.zeroValue135
  t64 := Tryd.underlying77
  a64 := Tryd.isAgg77
  z64 := Tryd.sizeOf77
  v64 := Tryd.zeroValue77 }
end Go.Proofs
