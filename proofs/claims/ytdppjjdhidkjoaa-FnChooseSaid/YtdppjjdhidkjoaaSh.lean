/-
  The layings of the library's sort and compaction at this program (printed by the kit's tool).
-/
import Derived.Test.YtdppjjdhidkjoaaProg
import Derived.Shelf.SlGeneric
import Derived.Ground.SlgmProg
import Derived.Ground.SlgnProg
import Derived.Ground.NamesProg
import Derived.Shelf.SortM.Plain
import Derived.Shelf.SortM.SortNone
import Derived.Shelf.SlicesE.Compact
namespace Go.Proofs
open Go.Shelf
def Try.sortI_ren : Go.Shelf.Ren := ⟨fun | 5 => 51 | 8 => 65 | 7 => 66 | 19 => 78 | 20 => 79 | 10 => 80 | 11 => 81 | 12 => 82 | 13 => 83 | 14 => 84 | 15 => 85 | 16 => 86 | 17 => 87 | 18 => 88 | 30 => 95 | 31 => 91 | 32 => 92 | 33 => 96 | 34 => 97 | 35 => 98 | 40 => 100 | n => n, fun | 23 => 23 | 25 => 3 | 3 => 3 | 32 => 80 | 22 => 23 | 0 => 0 | 44 => 96 | 46 => 98 | 4 => 4 | 36 => 89 | 35 => 88 | 41 => 93 | 5 => 5 | 9 => 9 | 53 => 106 | 57 => 110 | 63 => 114 | 64 => 115 | n => n, fun | n => n⟩
theorem Try.sortI : Go.Proofs.SlLaysM.n5 Try.prog Try.sortI_ren := {
  mixed := by kernel_rfl
  f5 := ⟨Try.f51.name, by decide, Try.func51.trans (congrArg some (by kernel_rfl))⟩
  f7 := ⟨Try.f66.name, by decide, Try.func66.trans (congrArg some (by kernel_rfl))⟩
  f8 := Try.func65.trans (congrArg some (by kernel_rfl))
  f10 := ⟨Try.f80.name, by decide, Try.func80.trans (congrArg some (by kernel_rfl))⟩
  f11 := ⟨Try.f81.name, by decide, Try.func81.trans (congrArg some (by kernel_rfl))⟩
  f12 := ⟨Try.f82.name, by decide, Try.func82.trans (congrArg some (by kernel_rfl))⟩
  f13 := ⟨Try.f83.name, by decide, Try.func83.trans (congrArg some (by kernel_rfl))⟩
  f14 := ⟨Try.f84.name, by decide, Try.func84.trans (congrArg some (by kernel_rfl))⟩
  f15 := ⟨Try.f85.name, by decide, Try.func85.trans (congrArg some (by kernel_rfl))⟩
  f16 := ⟨Try.f86.name, by decide, Try.func86.trans (congrArg some (by kernel_rfl))⟩
  f17 := ⟨Try.f87.name, by decide, Try.func87.trans (congrArg some (by kernel_rfl))⟩
  f18 := ⟨Try.f88.name, by decide, Try.func88.trans (congrArg some (by kernel_rfl))⟩
  f19 := Try.func78.trans (congrArg some (by kernel_rfl))
  f20 := Try.func79.trans (congrArg some (by kernel_rfl))
  f30 := ⟨Try.f95.name, by decide, Try.func95.trans (congrArg some (by kernel_rfl))⟩
  f31 := Try.func91.trans (congrArg some (by kernel_rfl))
  f32 := Try.func92.trans (congrArg some (by kernel_rfl))
  f33 := ⟨Try.f96.name, by decide, Try.func96.trans (congrArg some (by kernel_rfl))⟩
  f34 := ⟨Try.f97.name, by decide, Try.func97.trans (congrArg some (by kernel_rfl))⟩
  f35 := ⟨Try.f98.name, by decide, Try.func98.trans (congrArg some (by kernel_rfl))⟩
  f40 := ⟨Try.f100.name, by decide, Try.func100.trans (congrArg some (by kernel_rfl))⟩
  t0 := Try.underlying0
  a0 := Try.isAgg0
  z0 := Try.sizeOf0
  v0 := Try.zeroValue0
  t3 := Try.underlying3
  a3 := Try.isAgg3
  z3 := Try.sizeOf3
  v3 := Try.zeroValue3
  t4 := Try.underlying4
  a4 := Try.isAgg4
  z4 := Try.sizeOf4
  v4 := Try.zeroValue4
  t5 := Try.underlying5
  a5 := Try.isAgg5
  z5 := Try.sizeOf5
  v5 := Try.zeroValue5
  t9 := Try.underlying9
  a9 := Try.isAgg9
  z9 := Try.sizeOf9
  v9 := Try.zeroValue9
  t22 := Try.underlying23
  a22 := Try.isAgg23
  z22 := Try.sizeOf23
  v22 := Try.zeroValue23
  t23 := Try.underlying23
  a23 := Try.isAgg23
  z23 := Try.sizeOf23
  v23 := Try.zeroValue23
  t25 := Try.underlying3
  a25 := Try.isAgg3
  z25 := Try.sizeOf3
  v25 := Try.zeroValue3
  t32 := Try.underlying80
  a32 := Try.isAgg80
  z32 := Try.sizeOf80
  v32 := Try.zeroValue80
  t35 := Try.underlying88
  a35 := Try.isAgg88
  z35 := Try.sizeOf88
  v35 := Try.zeroValue88
  t36 := Try.underlying89
  a36 := Try.isAgg89
  z36 := Try.sizeOf89
  v36 := Try.zeroValue89
  t41 := Try.underlying93
  a41 := Try.isAgg93
  z41 := Try.sizeOf93
  v41 := Try.zeroValue93
  t44 := Try.underlying96
  a44 := Try.isAgg96
  z44 := Try.sizeOf96
  v44 := Try.zeroValue96
  t46 := Try.underlying98
  a46 := Try.isAgg98
  z46 := Try.sizeOf98
  v46 := Try.zeroValue98
  t53 := Try.underlying106
  a53 := Try.isAgg106
  z53 := Try.sizeOf106
  v53 := Try.zeroValue106
  t57 := Try.underlying110
  a57 := Try.isAgg110
  z57 := Try.sizeOf110
  v57 := Try.zeroValue110
  t63 := Try.underlying114
  a63 := Try.isAgg114
  z63 := Try.sizeOf114
  v63 := Try.zeroValue114
  t64 := Try.underlying115
  a64 := Try.isAgg115
  z64 := Try.sizeOf115
  v64 := Try.zeroValue115 }
end Go.Proofs
