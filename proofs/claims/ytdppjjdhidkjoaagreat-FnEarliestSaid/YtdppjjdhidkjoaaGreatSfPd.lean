import Derived.Test.YtdppjjdhidkjoaaGreatProg
import Derived.Shelf.SlGeneric
import Derived.Ground.SlgmProg
import Derived.Ground.SlgnProg
import Derived.Ground.SlsfProg
import Derived.Ground.NamesProg
import Derived.Shelf.SlSortCmp.Whole1
namespace Go.Proofs
open Go.Shelf
def Tryz.sortF_ren : Go.Shelf.Ren := ⟨fun | 6 => 181 | 15 => 177 | 14 => 246 | 28 => 243 | 29 => 244 | 20 => 267 | 21 => 268 | 22 => 269 | 23 => 270 | 24 => 271 | 25 => 272 | 26 => 273 | 27 => 274 | 46 => 285 | 47 => 262 | 48 => 263 | 49 => 286 | 50 => 287 | 57 => 291 | n => n, fun | 22 => 23 | 24 => 3 | 25 => 214 | 3 => 3 | 39 => 209 | 0 => 0 | 53 => 253 | 55 => 255 | 4 => 4 | 46 => 246 | 45 => 245 | 50 => 250 | 5 => 5 | 9 => 9 | 66 => 268 | 70 => 272 | 76 => 284 | 77 => 285 | n => n, fun | n => n⟩
theorem Tryz.sortF : Go.Proofs.SlLaysF.n6 Tryz.prog Tryz.sortF_ren := {
  mixed := by kernel_rfl
  f6 := ⟨Tryz.f181.name, by decide, Tryz.func181.trans (congrArg some (by kernel_rfl))⟩
  f14 := ⟨Tryz.f246.name, by decide, Tryz.func246.trans (congrArg some (by kernel_rfl))⟩
  f15 := Tryz.func177.trans (congrArg some (by kernel_rfl))
  f20 := ⟨Tryz.f267.name, by decide, Tryz.func267.trans (congrArg some (by kernel_rfl))⟩
  f21 := ⟨Tryz.f268.name, by decide, Tryz.func268.trans (congrArg some (by kernel_rfl))⟩
  f22 := ⟨Tryz.f269.name, by decide, Tryz.func269.trans (congrArg some (by kernel_rfl))⟩
  f23 := ⟨Tryz.f270.name, by decide, Tryz.func270.trans (congrArg some (by kernel_rfl))⟩
  f24 := ⟨Tryz.f271.name, by decide, Tryz.func271.trans (congrArg some (by kernel_rfl))⟩
  f25 := ⟨Tryz.f272.name, by decide, Tryz.func272.trans (congrArg some (by kernel_rfl))⟩
  f26 := ⟨Tryz.f273.name, by decide, Tryz.func273.trans (congrArg some (by kernel_rfl))⟩
  f27 := ⟨Tryz.f274.name, by decide, Tryz.func274.trans (congrArg some (by kernel_rfl))⟩
  f28 := Tryz.func243.trans (congrArg some (by kernel_rfl))
  f29 := Tryz.func244.trans (congrArg some (by kernel_rfl))
  f46 := ⟨Tryz.f285.name, by decide, Tryz.func285.trans (congrArg some (by kernel_rfl))⟩
  f47 := Tryz.func262.trans (congrArg some (by kernel_rfl))
  f48 := Tryz.func263.trans (congrArg some (by kernel_rfl))
  f49 := ⟨Tryz.f286.name, by decide, Tryz.func286.trans (congrArg some (by kernel_rfl))⟩
  f50 := ⟨Tryz.f287.name, by decide, Tryz.func287.trans (congrArg some (by kernel_rfl))⟩
  f57 := ⟨Tryz.f291.name, by decide, Tryz.func291.trans (congrArg some (by kernel_rfl))⟩
  t0 := Tryz.underlying0
  a0 := Tryz.isAgg0
  z0 := Tryz.sizeOf0
  v0 := Tryz.zeroValue0
  t3 := Tryz.underlying3
  a3 := Tryz.isAgg3
  z3 := Tryz.sizeOf3
  v3 := Tryz.zeroValue3
  t4 := Tryz.underlying4
  a4 := Tryz.isAgg4
  z4 := Tryz.sizeOf4
  v4 := Tryz.zeroValue4
  t5 := Tryz.underlying5
  a5 := Tryz.isAgg5
  z5 := Tryz.sizeOf5
  v5 := Tryz.zeroValue5
  t9 := Tryz.underlying9
  a9 := Tryz.isAgg9
  z9 := Tryz.sizeOf9
  v9 := Tryz.zeroValue9
  t22 := Tryz.underlying23
  a22 := Tryz.isAgg23
  z22 := Tryz.sizeOf23
  v22 := Tryz.zeroValue23
  a24 := Tryz.isAgg3
  z24 := Tryz.sizeOf3
  t25 := Tryz.underlying214
  a25 := Tryz.isAgg214
  z25 := Tryz.sizeOf214
  v25 := Tryz.zeroValue214
  t39 := Tryz.underlying209
  a39 := Tryz.isAgg209
  z39 := Tryz.sizeOf209
  v39 := Tryz.zeroValue209
  t45 := Tryz.underlying245
  a45 := Tryz.isAgg245
  z45 := Tryz.sizeOf245
  v45 := Tryz.zeroValue245
  t46 := Tryz.underlying246
  a46 := Tryz.isAgg246
  z46 := Tryz.sizeOf246
  v46 := Tryz.zeroValue246
  t50 := Tryz.underlying250
  a50 := Tryz.isAgg250
  z50 := Tryz.sizeOf250
  v50 := Tryz.zeroValue250
  t53 := Tryz.underlying253
  a53 := Tryz.isAgg253
  z53 := Tryz.sizeOf253
  v53 := Tryz.zeroValue253
  t55 := Tryz.underlying255
  a55 := Tryz.isAgg255
  z55 := Tryz.sizeOf255
  v55 := Tryz.zeroValue255
  t66 := Tryz.underlying268
  a66 := Tryz.isAgg268
  z66 := Tryz.sizeOf268
  v66 := Tryz.zeroValue268
  t70 := Tryz.underlying272
  a70 := Tryz.isAgg272
  z70 := Tryz.sizeOf272
  v70 := Tryz.zeroValue272
  t76 := Tryz.underlying284
  a76 := Tryz.isAgg284
  z76 := Tryz.sizeOf284
  v76 := Tryz.zeroValue284
  t77 := Tryz.underlying285
  a77 := Tryz.isAgg285
  z77 := Tryz.sizeOf285
  v77 := Tryz.zeroValue285 }
end Go.Proofs
