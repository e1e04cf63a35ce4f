import Derived.Test.YtnphjhbfpoekpaaGreatProg
import Derived.Shelf.SlGeneric
import Derived.Ground.SlgmProg
import Derived.Ground.SlgnProg
import Derived.Ground.SlsfProg
import Derived.Ground.NamesProg
import Derived.Shelf.SlSortCmp.Whole1
namespace Go.Proofs
open Go.Shelf
def Tryz.sortF_ren : Go.Shelf.Ren := ⟨fun | 6 => 200 | 15 => 195 | 14 => 238 | 28 => 227 | 29 => 228 | 20 => 257 | 21 => 258 | 22 => 259 | 23 => 260 | 24 => 261 | 25 => 262 | 26 => 263 | 27 => 264 | 46 => 268 | 47 => 249 | 48 => 250 | 49 => 269 | 50 => 270 | 57 => 271 | n => n, fun | 22 => 23 | 24 => 3 | 25 => 230 | 3 => 3 | 39 => 224 | 0 => 0 | 53 => 250 | 55 => 252 | 4 => 4 | 46 => 243 | 45 => 242 | 50 => 247 | 5 => 5 | 9 => 9 | 66 => 263 | 70 => 267 | 76 => 276 | 77 => 277 | n => n, fun | n => n⟩
theorem Tryz.sortF : Go.Proofs.SlLaysF.n6 Tryz.prog Tryz.sortF_ren := {
 mixed := by kernel_rfl
 f6 := ⟨Tryz.f200.name, by decide, Tryz.func200.trans (congrArg some (by kernel_rfl))⟩
 f14 := ⟨Tryz.f238.name, by decide, Tryz.func238.trans (congrArg some (by kernel_rfl))⟩
 f15 := Tryz.func195.trans (congrArg some (by kernel_rfl))
 f20 := ⟨Tryz.f257.name, by decide, Tryz.func257.trans (congrArg some (by kernel_rfl))⟩
 f21 := ⟨Tryz.f258.name, by decide, Tryz.func258.trans (congrArg some (by kernel_rfl))⟩
 f22 := ⟨Tryz.f259.name, by decide, Tryz.func259.trans (congrArg some (by kernel_rfl))⟩
 f23 := ⟨Tryz.f260.name, by decide, Tryz.func260.trans (congrArg some (by kernel_rfl))⟩
 f24 := ⟨Tryz.f261.name, by decide, Tryz.func261.trans (congrArg some (by kernel_rfl))⟩
 f25 := ⟨Tryz.f262.name, by decide, Tryz.func262.trans (congrArg some (by kernel_rfl))⟩
 f26 := ⟨Tryz.f263.name, by decide, Tryz.func263.trans (congrArg some (by kernel_rfl))⟩
 f27 := ⟨Tryz.f264.name, by decide, Tryz.func264.trans (congrArg some (by kernel_rfl))⟩
 f28 := Tryz.func227.trans (congrArg some (by kernel_rfl))
 f29 := Tryz.func228.trans (congrArg some (by kernel_rfl))
 f46 := ⟨Tryz.f268.name, by decide, Tryz.func268.trans (congrArg some (by kernel_rfl))⟩
 f47 := Tryz.func249.trans (congrArg some (by kernel_rfl))
 f48 := Tryz.func250.trans (congrArg some (by kernel_rfl))
 f49 := ⟨Tryz.f269.name, by decide, Tryz.func269.trans (congrArg some (by kernel_rfl))⟩
 f50 := ⟨Tryz.f270.name, by decide, Tryz.func270.trans (congrArg some (by kernel_rfl))⟩
 f57 := ⟨Tryz.f271.name, by decide, Tryz.func271.trans (congrArg some (by kernel_rfl))⟩
 t0 := Tryz.underlying0
 a0 := Tryz.isAgg0
 z0 := Tryz.sizeOf0
 v0 := Tryz.zeroValue0
 t3 := Tryz.underlying3
 a3 := Tryz.isAgg3
 z3 := Tryz.sizeOf3
 v3 := Tryz.zeroValue3
 t4 := Tryz.underlying4
 a4 := Tryz.isAgg4
 z4 := Tryz.sizeOf4
 v4 := Tryz.zeroValue4
 t5 := Tryz.underlying5
 a5 := Tryz.isAgg5
 z5 := Tryz.sizeOf5
 v5 := Tryz.zeroValue5
 t9 := Tryz.underlying9
 a9 := Tryz.isAgg9
 z9 := Tryz.sizeOf9
 v9 := Tryz.zeroValue9
 t22 := Tryz.underlying23
 a22 := Tryz.isAgg23
 z22 := Tryz.sizeOf23
 v22 := Tryz.zeroValue23
 a24 := Tryz.isAgg3
 z24 := Tryz.sizeOf3
 t25 := Tryz.underlying230
 a25 := Tryz.isAgg230
 z25 := Tryz.sizeOf230
 v25 := Tryz.zeroValue230
 t39 := Tryz.underlying224
 a39 := Tryz.isAgg224
 z39 := Tryz.sizeOf224
 v39 := Tryz.zeroValue224
 t45 := Tryz.underlying242
 a45 := Tryz.isAgg242
 z45 := Tryz.sizeOf242
 v45 := Tryz.zeroValue242
 t46 := Tryz.underlying243
 a46 := Tryz.isAgg243
 z46 := Tryz.sizeOf243
 v46 := Tryz.zeroValue243
 t50 := Tryz.underlying247
 a50 := Tryz.isAgg247
 z50 := Tryz.sizeOf247
 v50 := Tryz.zeroValue247
 t53 := Tryz.underlying250
 a53 := Tryz.isAgg250
 z53 := Tryz.sizeOf250
 v53 := Tryz.zeroValue250
 t55 := Tryz.underlying252
 a55 := Tryz.isAgg252
 z55 := Tryz.sizeOf252
 v55 := Tryz.zeroValue252
 t66 := Tryz.underlying263
 a66 := Tryz.isAgg263
 z66 := Tryz.sizeOf263
 v66 := Tryz.zeroValue263
 t70 := Tryz.underlying267
 a70 := Tryz.isAgg267
 z70 := Tryz.sizeOf267
 v70 := Tryz.zeroValue267
 t76 := Tryz.underlying276
 a76 := Tryz.isAgg276
 z76 := Tryz.sizeOf276
 v76 := Tryz.zeroValue276
 t77 := Tryz.underlying277
 a77 := Tryz.isAgg277
 z77 := Tryz.sizeOf277
 v77 := Tryz.zeroValue277 }
end Go.Proofs
