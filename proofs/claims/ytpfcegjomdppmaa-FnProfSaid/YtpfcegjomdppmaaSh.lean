/-
  The layings of the library's sort and compaction at this program (printed by the kit's tool).
-/
import Derived.Test.YtpfcegjomdppmaaProg
import Derived.Shelf.SlGeneric
import Derived.Ground.SlgmProg
import Derived.Ground.SlgnProg
import Derived.Ground.NamesProg
import Derived.Shelf.SortM.Plain
import Derived.Shelf.SortM.SortNone
import Derived.Shelf.SlicesE.Compact
namespace Go.Proofs
open Go.Shelf
def Try.sortI_ren : Go.Shelf.Ren := ⟨fun | 5 => 121 | 8 => 155 | 7 => 156 | 19 => 171 | 20 => 172 | 10 => 173 | 11 => 174 | 12 => 175 | 13 => 176 | 14 => 177 | 15 => 178 | 16 => 179 | 17 => 180 | 18 => 181 | 30 => 195 | 31 => 191 | 32 => 192 | 33 => 196 | 34 => 197 | 35 => 198 | 40 => 203 | n => n, fun | 23 => 23 | 25 => 3 | 3 => 3 | 32 => 166 | 22 => 23 | 0 => 0 | 44 => 182 | 46 => 184 | 4 => 4 | 36 => 175 | 35 => 174 | 41 => 179 | 5 => 5 | 9 => 9 | 53 => 195 | 57 => 199 | 63 => 205 | 64 => 131 | n => n, fun | n => n⟩
theorem Try.sortI : Go.Proofs.SlLaysM.n5 Try.prog Try.sortI_ren := {
  mixed := by kernel_rfl
  f5 := ⟨Try.f121.name, by decide, Try.func121.trans (congrArg some (by kernel_rfl))⟩
  f7 := ⟨Try.f156.name, by decide, Try.func156.trans (congrArg some (by kernel_rfl))⟩
  f8 := Try.func155.trans (congrArg some (by kernel_rfl))
  f10 := ⟨Try.f173.name, by decide, Try.func173.trans (congrArg some (by kernel_rfl))⟩
  f11 := ⟨Try.f174.name, by decide, Try.func174.trans (congrArg some (by kernel_rfl))⟩
  f12 := ⟨Try.f175.name, by decide, Try.func175.trans (congrArg some (by kernel_rfl))⟩
  f13 := ⟨Try.f176.name, by decide, Try.func176.trans (congrArg some (by kernel_rfl))⟩
  f14 := ⟨Try.f177.name, by decide, Try.func177.trans (congrArg some (by kernel_rfl))⟩
  f15 := ⟨Try.f178.name, by decide, Try.func178.trans (congrArg some (by kernel_rfl))⟩
  f16 := ⟨Try.f179.name, by decide, Try.func179.trans (congrArg some (by kernel_rfl))⟩
  f17 := ⟨Try.f180.name, by decide, Try.func180.trans (congrArg some (by kernel_rfl))⟩
  f18 := ⟨Try.f181.name, by decide, Try.func181.trans (congrArg some (by kernel_rfl))⟩
  f19 := Try.func171.trans (congrArg some (by kernel_rfl))
  f20 := Try.func172.trans (congrArg some (by kernel_rfl))
  f30 := ⟨Try.f195.name, by decide, Try.func195.trans (congrArg some (by kernel_rfl))⟩
  f31 := Try.func191.trans (congrArg some (by kernel_rfl))
  f32 := Try.func192.trans (congrArg some (by kernel_rfl))
  f33 := ⟨Try.f196.name, by decide, Try.func196.trans (congrArg some (by kernel_rfl))⟩
  f34 := ⟨Try.f197.name, by decide, Try.func197.trans (congrArg some (by kernel_rfl))⟩
  f35 := ⟨Try.f198.name, by decide, Try.func198.trans (congrArg some (by kernel_rfl))⟩
  f40 := ⟨Try.f203.name, by decide, Try.func203.trans (congrArg some (by kernel_rfl))⟩
  t0 := Try.underlying0
  a0 := Try.isAgg0
  z0 := Try.sizeOf0
  v0 := Try.zeroValue0
  t3 := Try.underlying3
  a3 := Try.isAgg3
  z3 := Try.sizeOf3
  v3 := Try.zeroValue3
  t4 := Try.underlying4
  a4 := Try.isAgg4
  z4 := Try.sizeOf4
  v4 := Try.zeroValue4
  t5 := Try.underlying5
  a5 := Try.isAgg5
  z5 := Try.sizeOf5
  v5 := Try.zeroValue5
  t9 := Try.underlying9
  a9 := Try.isAgg9
  z9 := Try.sizeOf9
  v9 := Try.zeroValue9
  t22 := Try.underlying23
  a22 := Try.isAgg23
  z22 := Try.sizeOf23
  v22 := Try.zeroValue23
  t23 := Try.underlying23
  a23 := Try.isAgg23
  z23 := Try.sizeOf23
  v23 := Try.zeroValue23
  t25 := Try.underlying3
  a25 := Try.isAgg3
  z25 := Try.sizeOf3
  v25 := Try.zeroValue3
  t32 := Try.underlying166
  a32 := Try.isAgg166
  z32 := Try.sizeOf166
  v32 := Try.zeroValue166
  t35 := Try.underlying174
  a35 := Try.isAgg174
  z35 := Try.sizeOf174
  v35 := Try.zeroValue174
  t36 := Try.underlying175
  a36 := Try.isAgg175
  z36 := Try.sizeOf175
  v36 := Try.zeroValue175
  t41 := Try.underlying179
  a41 := Try.isAgg179
  z41 := Try.sizeOf179
  v41 := Try.zeroValue179
  t44 := Try.underlying182
  a44 := Try.isAgg182
  z44 := Try.sizeOf182
  v44 := Try.zeroValue182
  t46 := Try.underlying184
  a46 := Try.isAgg184
  z46 := Try.sizeOf184
  v46 := Try.zeroValue184
  t53 := Try.underlying195
  a53 := Try.isAgg195
  z53 := Try.sizeOf195
  v53 := Try.zeroValue195
  t57 := Try.underlying199
  a57 := Try.isAgg199
  z57 := Try.sizeOf199
  v57 := Try.zeroValue199
  t63 := Try.underlying205
  a63 := Try.isAgg205
  z63 := Try.sizeOf205
  v63 := Try.zeroValue205
  t64 := Try.underlying131
  a64 := Try.isAgg131
  z64 := Try.sizeOf131
  v64 := Try.zeroValue131 }
def Try.compactI_ren : Go.Shelf.Ren := ⟨fun | 43 => 147 | n => n, fun | 22 => 23 | 23 => 3 | 3 => 3 | 4 => 4 | 0 => 0 | n => n, fun | n => n⟩
theorem Try.compactI : Go.Proofs.SlLaysE.n43 Try.prog Try.compactI_ren := {
  mixed := by kernel_rfl
  f43 := ⟨Try.f147.name, by decide, Try.func147.trans (congrArg some (by kernel_rfl))⟩
  t0 := Try.underlying0
  a0 := Try.isAgg0
  z0 := Try.sizeOf0
  v0 := Try.zeroValue0
  t3 := Try.underlying3
  a3 := Try.isAgg3
  z3 := Try.sizeOf3
  v3 := Try.zeroValue3
  t4 := Try.underlying4
  a4 := Try.isAgg4
  z4 := Try.sizeOf4
  v4 := Try.zeroValue4
  t22 := Try.underlying23
  a22 := Try.isAgg23
  z22 := Try.sizeOf23
  v22 := Try.zeroValue23
  a23 := Try.isAgg3
  z23 := Try.sizeOf3 }
end Go.Proofs
