import Derived.Test.YtdppjjdhidkjoaaGreatProg
import Derived.Shelf.SlGeneric
import Derived.Ground.SlgmProg
import Derived.Ground.SlgnProg
import Derived.Ground.NamesProg
import Derived.Shelf.SortM.Plain
import Derived.Shelf.SortM.SortNone
import Derived.Shelf.SlicesE.Compact
namespace Go.Proofs
open Go.Shelf
def Tryz.sortI_ren : Go.Shelf.Ren := ⟨fun | 5 => 83 | 8 => 177 | 7 => 176 | 19 => 243 | 20 => 244 | 10 => 234 | 11 => 235 | 12 => 236 | 13 => 237 | 14 => 238 | 15 => 239 | 16 => 240 | 17 => 241 | 18 => 242 | 30 => 261 | 31 => 262 | 32 => 263 | 33 => 264 | 34 => 265 | 35 => 266 | 40 => 284 | n => n, fun | 23 => 23 | 25 => 3 | 3 => 3 | 32 => 209 | 22 => 23 | 0 => 0 | 44 => 253 | 46 => 255 | 4 => 4 | 36 => 246 | 35 => 245 | 41 => 250 | 5 => 5 | 9 => 9 | 53 => 268 | 57 => 272 | 63 => 284 | 64 => 285 | n => n, fun | n => n⟩
theorem Tryz.sortI : Go.Proofs.SlLaysM.n5 Tryz.prog Tryz.sortI_ren := {
  mixed := by kernel_rfl
  f5 := ⟨Tryz.f83.name, by decide, Tryz.func83.trans (congrArg some (by kernel_rfl))⟩
  f7 := ⟨Tryz.f176.name, by decide, Tryz.func176.trans (congrArg some (by kernel_rfl))⟩
  f8 := Tryz.func177.trans (congrArg some (by kernel_rfl))
  f10 := ⟨Tryz.f234.name, by decide, Tryz.func234.trans (congrArg some (by kernel_rfl))⟩
  f11 := ⟨Tryz.f235.name, by decide, Tryz.func235.trans (congrArg some (by kernel_rfl))⟩
  f12 := ⟨Tryz.f236.name, by decide, Tryz.func236.trans (congrArg some (by kernel_rfl))⟩
  f13 := ⟨Tryz.f237.name, by decide, Tryz.func237.trans (congrArg some (by kernel_rfl))⟩
  f14 := ⟨Tryz.f238.name, by decide, Tryz.func238.trans (congrArg some (by kernel_rfl))⟩
  f15 := ⟨Tryz.f239.name, by decide, Tryz.func239.trans (congrArg some (by kernel_rfl))⟩
  f16 := ⟨Tryz.f240.name, by decide, Tryz.func240.trans (congrArg some (by kernel_rfl))⟩
  f17 := ⟨Tryz.f241.name, by decide, Tryz.func241.trans (congrArg some (by kernel_rfl))⟩
  f18 := ⟨Tryz.f242.name, by decide, Tryz.func242.trans (congrArg some (by kernel_rfl))⟩
  f19 := Tryz.func243.trans (congrArg some (by kernel_rfl))
  f20 := Tryz.func244.trans (congrArg some (by kernel_rfl))
  f30 := ⟨Tryz.f261.name, by decide, Tryz.func261.trans (congrArg some (by kernel_rfl))⟩
  f31 := Tryz.func262.trans (congrArg some (by kernel_rfl))
  f32 := Tryz.func263.trans (congrArg some (by kernel_rfl))
  f33 := ⟨Tryz.f264.name, by decide, Tryz.func264.trans (congrArg some (by kernel_rfl))⟩
  f34 := ⟨Tryz.f265.name, by decide, Tryz.func265.trans (congrArg some (by kernel_rfl))⟩
  f35 := ⟨Tryz.f266.name, by decide, Tryz.func266.trans (congrArg some (by kernel_rfl))⟩
  f40 := ⟨Tryz.f284.name, by decide, Tryz.func284.trans (congrArg some (by kernel_rfl))⟩
  t0 := Tryz.underlying0
  a0 := Tryz.isAgg0
  z0 := Tryz.sizeOf0
  v0 := Tryz.zeroValue0
  t3 := Tryz.underlying3
  a3 := Tryz.isAgg3
  z3 := Tryz.sizeOf3
  v3 := Tryz.zeroValue3
  t4 := Tryz.underlying4
  a4 := Tryz.isAgg4
  z4 := Tryz.sizeOf4
  v4 := Tryz.zeroValue4
  t5 := Tryz.underlying5
  a5 := Tryz.isAgg5
  z5 := Tryz.sizeOf5
  v5 := Tryz.zeroValue5
  t9 := Tryz.underlying9
  a9 := Tryz.isAgg9
  z9 := Tryz.sizeOf9
  v9 := Tryz.zeroValue9
  t22 := Tryz.underlying23
  a22 := Tryz.isAgg23
  z22 := Tryz.sizeOf23
  v22 := Tryz.zeroValue23
  t23 := Tryz.underlying23
  a23 := Tryz.isAgg23
  z23 := Tryz.sizeOf23
  v23 := Tryz.zeroValue23
  t25 := Tryz.underlying3
  a25 := Tryz.isAgg3
  z25 := Tryz.sizeOf3
  v25 := Tryz.zeroValue3
  t32 := Tryz.underlying209
  a32 := Tryz.isAgg209
  z32 := Tryz.sizeOf209
  v32 := Tryz.zeroValue209
  t35 := Tryz.underlying245
  a35 := Tryz.isAgg245
  z35 := Tryz.sizeOf245
  v35 := Tryz.zeroValue245
  t36 := Tryz.underlying246
  a36 := Tryz.isAgg246
  z36 := Tryz.sizeOf246
  v36 := Tryz.zeroValue246
  t41 := Tryz.underlying250
  a41 := Tryz.isAgg250
  z41 := Tryz.sizeOf250
  v41 := Tryz.zeroValue250
  t44 := Tryz.underlying253
  a44 := Tryz.isAgg253
  z44 := Tryz.sizeOf253
  v44 := Tryz.zeroValue253
  t46 := Tryz.underlying255
  a46 := Tryz.isAgg255
  z46 := Tryz.sizeOf255
  v46 := Tryz.zeroValue255
  t53 := Tryz.underlying268
  a53 := Tryz.isAgg268
  z53 := Tryz.sizeOf268
  v53 := Tryz.zeroValue268
  t57 := Tryz.underlying272
  a57 := Tryz.isAgg272
  z57 := Tryz.sizeOf272
  v57 := Tryz.zeroValue272
  t63 := Tryz.underlying284
  a63 := Tryz.isAgg284
  z63 := Tryz.sizeOf284
  v63 := Tryz.zeroValue284
  t64 := Tryz.underlying285
  a64 := Tryz.isAgg285
  z64 := Tryz.sizeOf285
  v64 := Tryz.zeroValue285 }
def Tryz.compactI_ren : Go.Shelf.Ren := ⟨fun | 43 => 84 | n => n, fun | 22 => 23 | 23 => 3 | 3 => 3 | 4 => 4 | 0 => 0 | n => n, fun | n => n⟩
theorem Tryz.compactI : Go.Proofs.SlLaysE.n43 Tryz.prog Tryz.compactI_ren := {
  mixed := by kernel_rfl
  f43 := ⟨Tryz.f84.name, by decide, Tryz.func84.trans (congrArg some (by kernel_rfl))⟩
  t0 := Tryz.underlying0
  a0 := Tryz.isAgg0
  z0 := Tryz.sizeOf0
  v0 := Tryz.zeroValue0
  t3 := Tryz.underlying3
  a3 := Tryz.isAgg3
  z3 := Tryz.sizeOf3
  v3 := Tryz.zeroValue3
  t4 := Tryz.underlying4
  a4 := Tryz.isAgg4
  z4 := Tryz.sizeOf4
  v4 := Tryz.zeroValue4
  t22 := Tryz.underlying23
  a22 := Tryz.isAgg23
  z22 := Tryz.sizeOf23
  v22 := Tryz.zeroValue23
  a23 := Tryz.isAgg3
  z23 := Tryz.sizeOf3 }
end Go.Proofs
