/-
  What the program calls of Go's library, laid at its numbers: each contract's table of numbers and the facts that it asks.
-/
import Derived.Test.YtchlioikkhnidaaGreatProg
import Derived.Ground.NamesProg
import Derived.Ground.Names2Prog
import Derived.Shelf.SlGeneric
import Derived.Shelf.Slices.Turned
import Derived.Shelf.Slices.Clone
import Derived.Shelf.Slices.Delete
import Derived.Shelf.Slices.Empties
import Derived.Shelf.Slices.In.SortNone
import Derived.Shelf.Sort.Plain
import Derived.Ground.SlmcProg
import Derived.Shelf.SlMaps.Clone
import Derived.Shelf.SlIterI.Nil
import Derived.Shelf.SortM.Plain
import Derived.Shelf.SortM.SortNone
import Derived.Ground.GgzProg
import Derived.Ground.SlgmProg
import Derived.Test.YtchlioikkhnidaaGreatRows
import Derived.Test.YtchlioikkhnidaaGreatMA
import Derived.Test.YtchlioikkhnidaaGreatMB
import Derived.Deep.LoopGhost
set_option linter.unusedVariables false
set_option linter.unusedSimpArgs false
namespace Go.Proofs
open Go.Shelf
def YtchlioikkhnidaaGreat.layIndex_ren : Go.Shelf.Ren := ⟨fun | 108 => 159 | n => n, fun | 28 => 110 | 3 => 3 | 0 => 0 | 4 => 4 | n => n, fun | n => n⟩
theorem YtchlioikkhnidaaGreat.layIndex : Go.Proofs.Lays.n108 Tryz.prog YtchlioikkhnidaaGreat.layIndex_ren := {
  mixed := by kernel_rfl
  f108 := Tryz.func159.trans (congrArg some (by kernel_rfl))
  t0 := Tryz.underlying0
  a0 := Tryz.isAgg0
  z0 := Tryz.sizeOf0
  v0 := Tryz.zeroValue0
  t3 := Tryz.underlying3
  a3 := Tryz.isAgg3
  z3 := Tryz.sizeOf3
  v3 := Tryz.zeroValue3
  t4 := Tryz.underlying4
  a4 := Tryz.isAgg4
  z4 := Tryz.sizeOf4
  v4 := Tryz.zeroValue4
  t28 := Tryz.underlying110
  a28 := Tryz.isAgg110
  z28 := Tryz.sizeOf110
  v28 := Tryz.zeroValue110 }
def YtchlioikkhnidaaGreat.layContains_ren : Go.Shelf.Ren := ⟨fun | 107 => 152 | 108 => 159 | n => n, fun | 28 => 110 | 3 => 3 | 4 => 4 | 0 => 0 | n => n, fun | n => n⟩
theorem YtchlioikkhnidaaGreat.layContains : Go.Proofs.Lays.n107 Tryz.prog YtchlioikkhnidaaGreat.layContains_ren := {
  mixed := by kernel_rfl
  f107 := Tryz.func152.trans (congrArg some (by kernel_rfl))
  f108 := Tryz.func159.trans (congrArg some (by kernel_rfl))
  t0 := Tryz.underlying0
  a0 := Tryz.isAgg0
  z0 := Tryz.sizeOf0
  v0 := Tryz.zeroValue0
  t3 := Tryz.underlying3
  a3 := Tryz.isAgg3
  z3 := Tryz.sizeOf3
  v3 := Tryz.zeroValue3
  t4 := Tryz.underlying4
  a4 := Tryz.isAgg4
  z4 := Tryz.sizeOf4
  v4 := Tryz.zeroValue4
  t28 := Tryz.underlying110
  a28 := Tryz.isAgg110
  z28 := Tryz.sizeOf110
  v28 := Tryz.zeroValue110 }
def YtchlioikkhnidaaGreat.layDelete_ren : Go.Shelf.Ren := ⟨fun | 23 => 160 | n => n, fun | 22 => 110 | 3 => 3 | 4 => 4 | 0 => 0 | n => n, fun | n => n⟩
theorem YtchlioikkhnidaaGreat.layDelete : Go.Proofs.Lays2.n23 Tryz.prog YtchlioikkhnidaaGreat.layDelete_ren := {
  mixed := by kernel_rfl
  f23 := Tryz.func160.trans (congrArg some (by kernel_rfl))
  t0 := Tryz.underlying0
  a0 := Tryz.isAgg0
  z0 := Tryz.sizeOf0
  v0 := Tryz.zeroValue0
  t3 := Tryz.underlying3
  a3 := Tryz.isAgg3
  z3 := Tryz.sizeOf3
  v3 := Tryz.zeroValue3
  t4 := Tryz.underlying4
  a4 := Tryz.isAgg4
  z4 := Tryz.sizeOf4
  v4 := Tryz.zeroValue4
  t22 := Tryz.underlying110
  a22 := Tryz.isAgg110
  z22 := Tryz.sizeOf110
  v22 := Tryz.zeroValue110
  i3 := by kernel_rfl }
def YtchlioikkhnidaaGreat.layClone_ren : Go.Shelf.Ren := ⟨fun | 15 => 144 | n => n, fun | 22 => 110 | 3 => 3 | 4 => 4 | n => n, fun | n => n⟩
theorem YtchlioikkhnidaaGreat.layClone : Go.Proofs.Lays2.n15 Tryz.prog YtchlioikkhnidaaGreat.layClone_ren := {
  mixed := by kernel_rfl
  f15 := Tryz.func144.trans (congrArg some (by kernel_rfl))
  t3 := Tryz.underlying3
  a3 := Tryz.isAgg3
  z3 := Tryz.sizeOf3
  v3 := Tryz.zeroValue3
  t4 := Tryz.underlying4
  a4 := Tryz.isAgg4
  z4 := Tryz.sizeOf4
  v4 := Tryz.zeroValue4
  t22 := Tryz.underlying110
  a22 := Tryz.isAgg110
  z22 := Tryz.sizeOf110
  v22 := Tryz.zeroValue110
  i3 := by kernel_rfl }
def YtchlioikkhnidaaGreat.laySort_ren : Go.Shelf.Ren := ⟨fun | 189 => 134 | 125 => 155 | 257 => 154 | 128 => 171 | 129 => 172 | 294 => 162 | 295 => 163 | 296 => 164 | 297 => 165 | 298 => 166 | 299 => 167 | 216 => 168 | 300 => 169 | 301 => 170 | 328 => 173 | 329 => 174 | 330 => 175 | 331 => 176 | 332 => 177 | 215 => 178 | 343 => 179 | n => n, fun | 28 => 110 | 3 => 3 | 46 => 67 | 0 => 0 | 51 => 236 | 53 => 215 | 4 => 4 | 183 => 230 | 182 => 229 | 131 => 154 | 5 => 5 | 9 => 9 | 218 => 238 | 222 => 242 | 228 => 244 | 229 => 245 | n => n, fun | n => n⟩
theorem YtchlioikkhnidaaGreat.laySort : Go.Proofs.Lays.n189 Tryz.prog YtchlioikkhnidaaGreat.laySort_ren := {
  mixed := by kernel_rfl
  f125 := Tryz.func155.trans (congrArg some (by kernel_rfl))
  f128 := Tryz.func171.trans (congrArg some (by kernel_rfl))
  f129 := Tryz.func172.trans (congrArg some (by kernel_rfl))
  f189 := Tryz.func134.trans (congrArg some (by kernel_rfl))
  f215 := Tryz.func178.trans (congrArg some (by kernel_rfl))
  f216 := Tryz.func168.trans (congrArg some (by kernel_rfl))
  f257 := Tryz.func154.trans (congrArg some (by kernel_rfl))
  f294 := Tryz.func162.trans (congrArg some (by kernel_rfl))
  f295 := Tryz.func163.trans (congrArg some (by kernel_rfl))
  f296 := Tryz.func164.trans (congrArg some (by kernel_rfl))
  f297 := Tryz.func165.trans (congrArg some (by kernel_rfl))
  f298 := Tryz.func166.trans (congrArg some (by kernel_rfl))
  f299 := Tryz.func167.trans (congrArg some (by kernel_rfl))
  f300 := Tryz.func169.trans (congrArg some (by kernel_rfl))
  f301 := Tryz.func170.trans (congrArg some (by kernel_rfl))
  f328 := Tryz.func173.trans (congrArg some (by kernel_rfl))
  f329 := Tryz.func174.trans (congrArg some (by kernel_rfl))
  f330 := Tryz.func175.trans (congrArg some (by kernel_rfl))
  f331 := Tryz.func176.trans (congrArg some (by kernel_rfl))
  f332 := Tryz.func177.trans (congrArg some (by kernel_rfl))
  f343 := Tryz.func179.trans (congrArg some (by kernel_rfl))
  t0 := Tryz.underlying0
  a0 := Tryz.isAgg0
  z0 := Tryz.sizeOf0
  v0 := Tryz.zeroValue0
  t3 := Tryz.underlying3
  a3 := Tryz.isAgg3
  z3 := Tryz.sizeOf3
  v3 := Tryz.zeroValue3
  t4 := Tryz.underlying4
  a4 := Tryz.isAgg4
  z4 := Tryz.sizeOf4
  v4 := Tryz.zeroValue4
  t5 := Tryz.underlying5
  a5 := Tryz.isAgg5
  z5 := Tryz.sizeOf5
  v5 := Tryz.zeroValue5
  t9 := Tryz.underlying9
  a9 := Tryz.isAgg9
  z9 := Tryz.sizeOf9
  v9 := Tryz.zeroValue9
  t28 := Tryz.underlying110
  a28 := Tryz.isAgg110
  z28 := Tryz.sizeOf110
  v28 := Tryz.zeroValue110
  t46 := Tryz.underlying67
  a46 := Tryz.isAgg67
  z46 := Tryz.sizeOf67
  v46 := Tryz.zeroValue67
  t51 := Tryz.underlying236
  a51 := Tryz.isAgg236
  z51 := Tryz.sizeOf236
  v51 := Tryz.zeroValue236
  t53 := Tryz.underlying215
  a53 := Tryz.isAgg215
  z53 := Tryz.sizeOf215
  v53 := Tryz.zeroValue215
  t131 := Tryz.underlying154
  a131 := Tryz.isAgg154
  z131 := Tryz.sizeOf154
  v131 := Tryz.zeroValue154
  t182 := Tryz.underlying229
  a182 := Tryz.isAgg229
  z182 := Tryz.sizeOf229
  v182 := Tryz.zeroValue229
  t183 := Tryz.underlying230
  a183 := Tryz.isAgg230
  z183 := Tryz.sizeOf230
  v183 := Tryz.zeroValue230
  t218 := Tryz.underlying238
  a218 := Tryz.isAgg238
  z218 := Tryz.sizeOf238
  v218 := Tryz.zeroValue238
  t222 := Tryz.underlying242
  a222 := Tryz.isAgg242
  z222 := Tryz.sizeOf242
  v222 := Tryz.zeroValue242
  t228 := Tryz.underlying244
  a228 := Tryz.isAgg244
  z228 := Tryz.sizeOf244
  v228 := Tryz.zeroValue244
  t229 := Tryz.underlying245
  a229 := Tryz.isAgg245
  z229 := Tryz.sizeOf245
  v229 := Tryz.zeroValue245 }
end Go.Proofs

/-
  What the program calls of Go's library, laid at its numbers: each contract's table of numbers and the facts that it asks.
-/
namespace Go.Proofs
open Go.Shelf
def YtchlioikkhnidaaGreat.layCloneB_ren : Go.Shelf.Ren := ⟨fun | 5 => 118 | 7 => 120 | n => n, fun | 23 => 170 | 25 => 3 | 3 => 42 | 4 => 4 | 20 => 20 | n => n, fun | n => n⟩
theorem YtchlioikkhnidaaGreat.layCloneB : Go.Proofs.SlLaysW.n5 Tryz.prog YtchlioikkhnidaaGreat.layCloneB_ren := {
  mixed := by kernel_rfl
  f5 := ⟨Tryz.f118.name, by decide, Tryz.func118.trans (congrArg some (by kernel_rfl))⟩
  f7 := Tryz.func120.trans (congrArg some (by kernel_rfl))
  t4 := Tryz.underlying4
  a4 := Tryz.isAgg4
  z4 := Tryz.sizeOf4
  v4 := Tryz.zeroValue4
  t20 := Tryz.underlying20
  a20 := Tryz.isAgg20
  z20 := Tryz.sizeOf20
  v20 := Tryz.zeroValue20
  t23 := Tryz.underlying170
  a23 := Tryz.isAgg170
  z23 := Tryz.sizeOf170
  v23 := Tryz.zeroValue170 }
def YtchlioikkhnidaaGreat.layCloneO_ren : Go.Shelf.Ren := ⟨fun | 5 => 70 | 7 => 120 | n => n, fun | 23 => 88 | 25 => 3 | 3 => 4 | 4 => 4 | 20 => 20 | n => n, fun | n => n⟩
theorem YtchlioikkhnidaaGreat.layCloneO : Go.Proofs.SlLaysW.n5 Tryz.prog YtchlioikkhnidaaGreat.layCloneO_ren := {
  mixed := by kernel_rfl
  f5 := ⟨Tryz.f70.name, by decide, Tryz.func70.trans (congrArg some (by kernel_rfl))⟩
  f7 := Tryz.func120.trans (congrArg some (by kernel_rfl))
  t4 := Tryz.underlying4
  a4 := Tryz.isAgg4
  z4 := Tryz.sizeOf4
  v4 := Tryz.zeroValue4
  t20 := Tryz.underlying20
  a20 := Tryz.isAgg20
  z20 := Tryz.sizeOf20
  v20 := Tryz.zeroValue20
  t23 := Tryz.underlying88
  a23 := Tryz.isAgg88
  z23 := Tryz.sizeOf88
  v23 := Tryz.zeroValue88 }
def YtchlioikkhnidaaGreat.layCloneI_ren : Go.Shelf.Ren := ⟨fun | 5 => 71 | 7 => 120 | n => n, fun | 23 => 62 | 25 => 3 | 3 => 3 | 4 => 4 | 20 => 20 | n => n, fun | n => n⟩
theorem YtchlioikkhnidaaGreat.layCloneI : Go.Proofs.SlLaysW.n5 Tryz.prog YtchlioikkhnidaaGreat.layCloneI_ren := {
  mixed := by kernel_rfl
  f5 := ⟨Tryz.f71.name, by decide, Tryz.func71.trans (congrArg some (by kernel_rfl))⟩
  f7 := Tryz.func120.trans (congrArg some (by kernel_rfl))
  t4 := Tryz.underlying4
  a4 := Tryz.isAgg4
  z4 := Tryz.sizeOf4
  v4 := Tryz.zeroValue4
  t20 := Tryz.underlying20
  a20 := Tryz.isAgg20
  z20 := Tryz.sizeOf20
  v20 := Tryz.zeroValue20
  t23 := Tryz.underlying62
  a23 := Tryz.isAgg62
  z23 := Tryz.sizeOf62
  v23 := Tryz.zeroValue62 }
def YtchlioikkhnidaaGreat.layCloneA_ren : Go.Shelf.Ren := ⟨fun | 5 => 119 | 7 => 120 | n => n, fun | 23 => 177 | 25 => 3 | 3 => 124 | 4 => 4 | 20 => 20 | n => n, fun | n => n⟩
theorem YtchlioikkhnidaaGreat.layCloneA : Go.Proofs.SlLaysW.n5 Tryz.prog YtchlioikkhnidaaGreat.layCloneA_ren := {
  mixed := by kernel_rfl
  f5 := ⟨Tryz.f119.name, by decide, Tryz.func119.trans (congrArg some (by kernel_rfl))⟩
  f7 := Tryz.func120.trans (congrArg some (by kernel_rfl))
  t4 := Tryz.underlying4
  a4 := Tryz.isAgg4
  z4 := Tryz.sizeOf4
  v4 := Tryz.zeroValue4
  t20 := Tryz.underlying20
  a20 := Tryz.isAgg20
  z20 := Tryz.sizeOf20
  v20 := Tryz.zeroValue20
  t23 := Tryz.underlying177
  a23 := Tryz.isAgg177
  z23 := Tryz.sizeOf177
  v23 := Tryz.zeroValue177 }
end Go.Proofs

/-
  What the program calls of Go's library, laid at its numbers: each contract's table of numbers and the facts that it asks.
-/
namespace Go.Proofs
open Go.Shelf
def YtchlioikkhnidaaGreat.layKeys_ren : Go.Shelf.Ren := ⟨fun | 7 => 98 | 10 => 136 | n => n, fun | 23 => 177 | 26 => 3 | 3 => 124 | 28 => 175 | 0 => 0 | 27 => 174 | 33 => 190 | 4 => 4 | n => n, fun | n => n⟩
theorem YtchlioikkhnidaaGreat.layKeys : Go.Proofs.SlLaysZI.n7 Tryz.prog YtchlioikkhnidaaGreat.layKeys_ren := {
  mixed := by kernel_rfl
  f7 := ⟨Tryz.f98.name, by decide, Tryz.func98.trans (congrArg some (by kernel_rfl))⟩
  f10 := ⟨Tryz.f136.name, by decide, Tryz.func136.trans (congrArg some (by kernel_rfl))⟩
  t0 := Tryz.underlying0
  a0 := Tryz.isAgg0
  z0 := Tryz.sizeOf0
  v0 := Tryz.zeroValue0
  t4 := Tryz.underlying4
  a4 := Tryz.isAgg4
  z4 := Tryz.sizeOf4
  v4 := Tryz.zeroValue4
  t23 := Tryz.underlying177
  a23 := Tryz.isAgg177
  z23 := Tryz.sizeOf177
  v23 := Tryz.zeroValue177
  t26 := Tryz.underlying3
  a26 := Tryz.isAgg3
  z26 := Tryz.sizeOf3
  v26 := Tryz.zeroValue3
  t27 := Tryz.underlying174
  a27 := Tryz.isAgg174
  z27 := Tryz.sizeOf174
  v27 := Tryz.zeroValue174
  t28 := Tryz.underlying175
  a28 := Tryz.isAgg175
  z28 := Tryz.sizeOf175
  v28 := Tryz.zeroValue175
  t33 := Tryz.underlying190
  a33 := Tryz.isAgg190
  z33 := Tryz.sizeOf190
  v33 := Tryz.zeroValue190 }
def YtchlioikkhnidaaGreat.laySorted_ren : Go.Shelf.Ren := ⟨fun | 6 => 97 | 8 => 135 | 9 => 134 | 11 => 156 | 13 => 155 | 12 => 154 | 23 => 171 | 24 => 172 | 14 => 162 | 15 => 163 | 16 => 164 | 17 => 165 | 18 => 166 | 19 => 167 | 20 => 168 | 21 => 169 | 22 => 170 | 25 => 173 | 26 => 174 | 27 => 175 | 28 => 176 | 29 => 177 | 30 => 178 | 31 => 179 | n => n, fun | 26 => 3 | 28 => 175 | 24 => 110 | 0 => 0 | 3 => 3 | 37 => 67 | 48 => 236 | 50 => 215 | 4 => 4 | 40 => 230 | 39 => 229 | 45 => 154 | 5 => 5 | 9 => 9 | 51 => 238 | 55 => 242 | 57 => 244 | 58 => 245 | 33 => 190 | n => n, fun | n => n⟩
theorem YtchlioikkhnidaaGreat.laySorted : Go.Proofs.SlLaysZI.n6 Tryz.prog YtchlioikkhnidaaGreat.laySorted_ren := {
  mixed := by kernel_rfl
  f6 := ⟨Tryz.f97.name, by decide, Tryz.func97.trans (congrArg some (by kernel_rfl))⟩
  f8 := ⟨Tryz.f135.name, by decide, Tryz.func135.trans (congrArg some (by kernel_rfl))⟩
  f11 := ⟨Tryz.f156.name, by decide, Tryz.func156.trans (congrArg some (by kernel_rfl))⟩
  t0 := Tryz.underlying0
  a0 := Tryz.isAgg0
  z0 := Tryz.sizeOf0
  v0 := Tryz.zeroValue0
  t24 := Tryz.underlying110
  a24 := Tryz.isAgg110
  z24 := Tryz.sizeOf110
  v24 := Tryz.zeroValue110
  t26 := Tryz.underlying3
  a26 := Tryz.isAgg3
  z26 := Tryz.sizeOf3
  v26 := Tryz.zeroValue3
  t28 := Tryz.underlying175
  a28 := Tryz.isAgg175
  z28 := Tryz.sizeOf175
  v28 := Tryz.zeroValue175
  i26 := by kernel_rfl }
def YtchlioikkhnidaaGreat.laySortG_ren : Go.Shelf.Ren := ⟨fun | 5 => 134 | 8 => 155 | 7 => 154 | 19 => 171 | 20 => 172 | 10 => 162 | 11 => 163 | 12 => 164 | 13 => 165 | 14 => 166 | 15 => 167 | 16 => 168 | 17 => 169 | 18 => 170 | 30 => 173 | 31 => 174 | 32 => 175 | 33 => 176 | 34 => 177 | 35 => 178 | 40 => 179 | n => n, fun | 23 => 110 | 25 => 3 | 3 => 3 | 32 => 67 | 22 => 110 | 0 => 0 | 44 => 236 | 46 => 215 | 4 => 4 | 36 => 230 | 35 => 229 | 41 => 154 | 5 => 5 | 9 => 9 | 53 => 238 | 57 => 242 | 63 => 244 | 64 => 245 | n => n, fun | n => n⟩
theorem YtchlioikkhnidaaGreat.laySortG : Go.Proofs.SlLaysM.n5 Tryz.prog YtchlioikkhnidaaGreat.laySortG_ren := {
  mixed := by kernel_rfl
  f5 := ⟨Tryz.f134.name, by decide, Tryz.func134.trans (congrArg some (by kernel_rfl))⟩
  f7 := ⟨Tryz.f154.name, by decide, Tryz.func154.trans (congrArg some (by kernel_rfl))⟩
  f8 := Tryz.func155.trans (congrArg some (by kernel_rfl))
  f10 := ⟨Tryz.f162.name, by decide, Tryz.func162.trans (congrArg some (by kernel_rfl))⟩
  f11 := ⟨Tryz.f163.name, by decide, Tryz.func163.trans (congrArg some (by kernel_rfl))⟩
  f12 := ⟨Tryz.f164.name, by decide, Tryz.func164.trans (congrArg some (by kernel_rfl))⟩
  f13 := ⟨Tryz.f165.name, by decide, Tryz.func165.trans (congrArg some (by kernel_rfl))⟩
  f14 := ⟨Tryz.f166.name, by decide, Tryz.func166.trans (congrArg some (by kernel_rfl))⟩
  f15 := ⟨Tryz.f167.name, by decide, Tryz.func167.trans (congrArg some (by kernel_rfl))⟩
  f16 := ⟨Tryz.f168.name, by decide, Tryz.func168.trans (congrArg some (by kernel_rfl))⟩
  f17 := ⟨Tryz.f169.name, by decide, Tryz.func169.trans (congrArg some (by kernel_rfl))⟩
  f18 := ⟨Tryz.f170.name, by decide, Tryz.func170.trans (congrArg some (by kernel_rfl))⟩
  f19 := Tryz.func171.trans (congrArg some (by kernel_rfl))
  f20 := Tryz.func172.trans (congrArg some (by kernel_rfl))
  f30 := ⟨Tryz.f173.name, by decide, Tryz.func173.trans (congrArg some (by kernel_rfl))⟩
  f31 := Tryz.func174.trans (congrArg some (by kernel_rfl))
  f32 := Tryz.func175.trans (congrArg some (by kernel_rfl))
  f33 := ⟨Tryz.f176.name, by decide, Tryz.func176.trans (congrArg some (by kernel_rfl))⟩
  f34 := ⟨Tryz.f177.name, by decide, Tryz.func177.trans (congrArg some (by kernel_rfl))⟩
  f35 := ⟨Tryz.f178.name, by decide, Tryz.func178.trans (congrArg some (by kernel_rfl))⟩
  f40 := ⟨Tryz.f179.name, by decide, Tryz.func179.trans (congrArg some (by kernel_rfl))⟩
  t0 := Tryz.underlying0
  a0 := Tryz.isAgg0
  z0 := Tryz.sizeOf0
  v0 := Tryz.zeroValue0
  t3 := Tryz.underlying3
  a3 := Tryz.isAgg3
  z3 := Tryz.sizeOf3
  v3 := Tryz.zeroValue3
  t4 := Tryz.underlying4
  a4 := Tryz.isAgg4
  z4 := Tryz.sizeOf4
  v4 := Tryz.zeroValue4
  t5 := Tryz.underlying5
  a5 := Tryz.isAgg5
  z5 := Tryz.sizeOf5
  v5 := Tryz.zeroValue5
  t9 := Tryz.underlying9
  a9 := Tryz.isAgg9
  z9 := Tryz.sizeOf9
  v9 := Tryz.zeroValue9
  t22 := Tryz.underlying110
  a22 := Tryz.isAgg110
  z22 := Tryz.sizeOf110
  v22 := Tryz.zeroValue110
  t23 := Tryz.underlying110
  a23 := Tryz.isAgg110
  z23 := Tryz.sizeOf110
  v23 := Tryz.zeroValue110
  t25 := Tryz.underlying3
  a25 := Tryz.isAgg3
  z25 := Tryz.sizeOf3
  v25 := Tryz.zeroValue3
  t32 := Tryz.underlying67
  a32 := Tryz.isAgg67
  z32 := Tryz.sizeOf67
  v32 := Tryz.zeroValue67
  t35 := Tryz.underlying229
  a35 := Tryz.isAgg229
  z35 := Tryz.sizeOf229
  v35 := Tryz.zeroValue229
  t36 := Tryz.underlying230
  a36 := Tryz.isAgg230
  z36 := Tryz.sizeOf230
  v36 := Tryz.zeroValue230
  t41 := Tryz.underlying154
  a41 := Tryz.isAgg154
  z41 := Tryz.sizeOf154
  v41 := Tryz.zeroValue154
  t44 := Tryz.underlying236
  a44 := Tryz.isAgg236
  z44 := Tryz.sizeOf236
  v44 := Tryz.zeroValue236
  t46 := Tryz.underlying215
  a46 := Tryz.isAgg215
  z46 := Tryz.sizeOf215
  v46 := Tryz.zeroValue215
  t53 := Tryz.underlying238
  a53 := Tryz.isAgg238
  z53 := Tryz.sizeOf238
  v53 := Tryz.zeroValue238
  t57 := Tryz.underlying242
  a57 := Tryz.isAgg242
  z57 := Tryz.sizeOf242
  v57 := Tryz.zeroValue242
  t63 := Tryz.underlying244
  a63 := Tryz.isAgg244
  z63 := Tryz.sizeOf244
  v63 := Tryz.zeroValue244
  t64 := Tryz.underlying245
  a64 := Tryz.isAgg245
  z64 := Tryz.sizeOf245
  v64 := Tryz.zeroValue245 }
end Go.Proofs

/-
  Go's library on slices of whole numbers, and maps.Clone, laid at this program; and what its calls come to on slices of one's own.
-/
namespace Go.Proofs.YtchlioikkhnidaaGreat
open Go.RowKit Go.Sort Go.Shelf

/-- The place of a number among some; -1: it isn't there. -/
def posOf (l : List Int) (x : Int) : Int := Lib.idxOf l x

theorem sliceInts {w : World} {v : Value} {l : List Int} (h : SliceIs w 1 v (ints l)) :
    ∃ A cap, v = .slice A l.length cap ∧ l.length ≤ cap ∧ l.length ≤ 9223372036854775807 ∧ (0 < l.length → ∃ b off, A = some ⟨b, off, none⟩ ∧ ∀ j, j < l.length → w.cell? ⟨b, off + j, none⟩ = some (.int .i64 (l.getD j 0))) := by
  obtain ⟨A, cap, rfl, h1, h2, h3⟩ := h
  simp only [ints_length] at h1 h2 h3 ⊢
  refine ⟨A, cap, rfl, h1, h2, fun hp => ?_⟩
  obtain ⟨b, off, e, hr⟩ := h3 hp
  exact ⟨b, off, e, ints_cells hr⟩

theorem Index_calls (l : List Int) (x : Int) (v : Value) (w : World) (h : SliceIs w 1 v (ints l)) :
    Calls Tryz.prog 159 #[v, .int .i64 x] w fun e w' => e = .returned (.int .i64 (posOf l x)) ∧ w = w' := by
  obtain ⟨A, cap, rfl, h1, h2, h3⟩ := sliceInts h
  by_cases hp : 0 < l.length
  · obtain ⟨b, off, rfl, hc⟩ := h3 hp
    have hcon := Any.slices_Index_int layIndex b off l.length cap l x w (Nat.le_refl _) h2 hc
    change Calls Tryz.prog 159 _ _ _ at hcon
    refine hcon.mono ?_
    rintro e w' ⟨rfl, rfl⟩
    rw [List.take_length]; exact ⟨rfl, rfl⟩
  · have h0 : l = [] := by cases l with | nil => rfl | cons a l => simp at hp
    subst h0
    have hcon := Any.slices_Index_int_empty layIndex A cap x w
    change Calls Tryz.prog 159 _ _ _ at hcon
    refine hcon.mono ?_
    rintro e w' ⟨rfl, rfl⟩
    exact ⟨rfl, rfl⟩

theorem Contains_calls (l : List Int) (x : Int) (v : Value) (w : World) (h : SliceIs w 1 v (ints l)) :
    Calls Tryz.prog 152 #[v, .int .i64 x] w fun e w' => e = .returned (.bool (l.contains x)) ∧ w = w' := by
  obtain ⟨A, cap, rfl, h1, h2, h3⟩ := sliceInts h
  by_cases hp : 0 < l.length
  · obtain ⟨b, off, rfl, hc⟩ := h3 hp
    have hcon := Any.slices_Contains_int layContains b off l.length cap l x w (Nat.le_refl _) h2 hc
    change Calls Tryz.prog 152 _ _ _ at hcon
    refine hcon.mono ?_
    rintro e w' ⟨rfl, rfl⟩
    rw [List.take_length]; exact ⟨rfl, rfl⟩
  · have h0 : l = [] := by cases l with | nil => rfl | cons a l => simp at hp
    subst h0
    have hcon := Any.slices_Contains_int_empty layContains A cap x w
    change Calls Tryz.prog 152 _ _ _ at hcon
    refine hcon.mono ?_
    rintro e w' ⟨rfl, rfl⟩
    exact ⟨rfl, rfl⟩

theorem Delete_calls (l : List Int) (i : Nat) (v : Value) (w : World) (h : OwnSl w 3 1 v (ints l)) (hi : i < l.length) :
    Calls Tryz.prog 160 #[v, .int .i64 i, .int .i64 ((i : Int) + 1)] w fun e w' => ∃ v', e = .returned v' ∧ OwnSl w' 3 1 v' (ints (l.eraseIdx i)) ∧ v'.ownBlock = v.ownBlock ∧ Chg (fun k => v.ownBlock = some k) w w' := by
  rcases ownInts_cells h with ⟨_, rfl⟩ | ⟨g, cap, cur, rfl, hb, h1, h2, h3, h4⟩
  · simp at hi
  have hcon := Any.slices_Delete_int layDelete g 0 cap i (i + 1) l w (own_holds hb h4) h1 h2 (by omega) (by omega)
  change Calls Tryz.prog 160 _ _ _ at hcon
  rw [Int.natCast_add] at hcon
  refine hcon.mono ?_
  rintro e w' ⟨rfl, q, rfl⟩
  have e1 : l.take i ++ l.drop (i + 1) = l.eraseIdx i := (List.eraseIdx_eq_take_drop_succ l i).symm
  have e2 : (l.eraseIdx i).length = l.length - 1 := by rw [List.length_eraseIdx, if_pos hi]
  have hlen : (l.take i ++ l.drop (i + 1) ++ List.replicate (i + 1 - i) 0).length = l.length := by rw [e1]; simp [e2]; omega
  obtain ⟨p1, p2⟩ := putCells_list (l.take i ++ l.drop (i + 1) ++ List.replicate (i + 1 - i) 0) cur (by rw [hlen]; omega)
  refine ⟨_, rfl, ?_, rfl, (chg_putRow q _).mono (fun k _ hk => by rw [hk]; rfl)⟩
  have e3 : l.length - (i + 1 - i) = (l.eraseIdx i).length := by omega
  rw [e3]
  refine ownInts_of (ob_putRow q _ hb) (by omega) h2 (by rw [p1, h3]) ?_
  rw [p2 _ (by omega), e1, List.take_left' rfl]

theorem Clone_calls (l : List Int) (v : Value) (w : World) (h : SliceIs w 1 v (ints l)) (hl : l.length ≤ 1000000) :
    Calls Tryz.prog 144 #[v] w fun e w' => ∃ v', e = .returned v' ∧ OwnSl w' 3 1 v' (ints l) ∧ (∀ k, v'.ownBlock = some k → w.heap.size ≤ k) ∧ Below w.heap.size w w' := by
  obtain ⟨A, cap, rfl, h1, h2, h3⟩ := sliceInts h
  have own : ∀ (v' : Value) (w' : World), w'.ownsRow w.heap.size 3 1 v' l.length (l.map (Value.int .i64)) → OwnSl w' 3 1 v' (ints l) ∧ (∀ k, v'.ownBlock = some k → w.heap.size ≤ k) := by
    rintro v' w' ⟨q1, q2⟩
    rcases q2 with ⟨rfl, q3⟩ | ⟨g, cap, cur, rfl, q3, q4⟩
    · have h0 : l = [] := by cases l with | nil => rfl | cons a l => simp at q3
      subst h0
      exact ⟨OwnSl.nil, fun k hk => by simp [Value.ownBlock] at hk⟩
    · refine ⟨⟨⟨(ints_ok l).flat, .inr ⟨g, cap, cur, by simp, Nat.zero_le _, ?_⟩⟩, ints_ok l⟩, fun k hk => by simp only [Value.ownBlock, Option.some.injEq] at hk; omega⟩
      rw [ints_flat, ints_length]
      exact q4
  by_cases hp : 0 < l.length
  · obtain ⟨b, off, rfl, hc⟩ := h3 hp
    have hcon := Any.slices_Clone_int layClone b off l.length cap l w (Nat.le_refl _) (by omega) hc
    change Calls Tryz.prog 144 _ _ _ at hcon
    refine hcon.mono ?_
    rintro e w' ⟨v', rfl, q1, _, q2⟩
    rw [List.take_length] at q1
    exact ⟨v', rfl, (own v' w' q1).1, (own v' w' q1).2, q2⟩
  · have h0 : l = [] := by cases l with | nil => rfl | cons a l => simp at hp
    subst h0
    cases A with
    | none =>
      have hcon := Any.slices_Clone_int_nil layClone 0 cap w
      change Calls Tryz.prog 144 _ _ _ at hcon
      refine hcon.mono ?_
      rintro e w' ⟨rfl, rfl⟩
      exact ⟨_, rfl, OwnSl.nil, fun k hk => by simp [Value.ownBlock] at hk, Below.refl _ _⟩
    | some a =>
      have hcon := Any.slices_Clone_int_zero layClone a cap w
      change Calls Tryz.prog 144 _ _ _ at hcon
      refine hcon.mono ?_
      rintro e w' ⟨v', rfl, q1, _, q2⟩
      exact ⟨v', rfl, (own v' w' q1).1, (own v' w' q1).2, q2⟩

theorem Sort_calls (l : List Int) (v : Value) (w : World) (h : OwnSl w 3 1 v (ints l)) (hl : l.length ≤ 1000000) :
    Calls Tryz.prog 134 #[v] w fun e w' => e = .returned (.tuple #[]) ∧ OwnSl w' 3 1 v (ints (l.mergeSort fun x y => decide (x ≤ y))) ∧ Chg (fun k => v.ownBlock = some k) w w' := by
  rcases ownInts_cells h with ⟨rfl, rfl⟩ | ⟨g, cap, cur, rfl, hb, h1, h2, h3, h4⟩
  · have hcon := Any.slices_Sort_int_none laySort none 0 w
    change Calls Tryz.prog 134 _ _ _ at hcon
    refine hcon.mono ?_
    rintro e w' ⟨rfl, rfl⟩
    exact ⟨rfl, by simpa using h, Chg.refl _ _⟩
  · have hcon := Any.slices_Sort_int laySort g 0 cap l w (own_holds hb h4) (ob_lt hb) (by omega)
    change Calls Tryz.prog 134 _ _ _ at hcon
    refine hcon.mono ?_
    rintro e w' ⟨rfl, n, os, rfl⟩
    have hl' : (l.mergeSort fun x y => decide (x ≤ y)).length = l.length := List.length_mergeSort _
    obtain ⟨p1, p2⟩ := putCells_list (l.mergeSort fun x y => decide (x ≤ y)) cur (by rw [hl']; omega)
    refine ⟨rfl, ?_, (chg_grow (chg_putRow n _) os).mono (fun k _ hk => by rw [hk]; rfl)⟩
    rw [← hl']
    refine ownInts_of (ob_grow os (ob_putRow n _ hb)) (by omega) h2 (by rw [p1, h3]) ?_
    rw [p2 _ (Nat.le_refl _), List.take_length]
end Go.Proofs.YtchlioikkhnidaaGreat

/-
  Slices of the program's structs as lists; the document's word for two lists that are the same.
-/
namespace Go.Proofs.YtchlioikkhnidaaGreat
open Go.RowKit Go.Sort Go.ChangeShapes Go.WideShapes Go.ChangeAt
open Go.ChangeMaps (setBlock)
set_option linter.unusedVariables false
set_option linter.unusedSimpArgs false

theorem rowsOk_of {α : Type} {sz : Nat} {cells : α → List Value} (h1 : ∀ x, (cells x).length = sz) (h2 : ∀ x, ∀ u ∈ cells x, u.oneCell' = true) (l : List α) : RowsOk sz (l.map cells) :=
  ⟨fun r hr => by obtain ⟨d, _, rfl⟩ := List.mem_map.1 hr; exact h1 d, fun r hr u hu => by obtain ⟨d, _, rfl⟩ := List.mem_map.1 hr; exact h2 d u hu⟩
theorem sliceOf {α : Type} {sz : Nat} {cells : α → List Value} {w : World} {v : Value} {l : List α} (h : SliceIs w sz v (l.map cells)) :
    ∃ A cap, v = .slice A l.length cap ∧ l.length ≤ cap ∧ l.length ≤ 9223372036854775807 ∧ (0 < l.length → ∃ b off, A = some ⟨b, off, none⟩ ∧ ∀ j, (hj : j < l.length) → w.rangeAt b (off + j * sz) (cells l[j])) := by
  obtain ⟨A, cap, rfl, h1, h2, h3⟩ := h
  simp only [List.length_map] at h1 h2 h3 ⊢
  refine ⟨A, cap, rfl, h1, h2, fun hp => ?_⟩
  obtain ⟨b, off, e, hr⟩ := h3 hp
  exact ⟨b, off, e, fun j hj => hr j _ (by simp [hj])⟩
theorem tyLetters : SlTy Tryz.prog 32 44 11 80 ((Letter.plain 0 0 0 0 0 0) : Letter).val := ⟨Tryz.underlying32, by kernel_rfl, rfl, by decide, by decide⟩
theorem letters_ok (l : List Letter) : RowsOk 11 (l.map Letter.cells) := rowsOk_of (sz := 11) (cells := Letter.cells) (fun _ => rfl) (fun x u hu => by simp only [Letter.cells, List.mem_cons, List.not_mem_nil, or_false] at hu; rcases hu with rfl | rfl | rfl | rfl | rfl | rfl | rfl | rfl | rfl | rfl | rfl <;> rfl) l
set_option maxHeartbeats 4000000 in
theorem letter_same (l : List Letter) (va vb : Value) (w : World) (ha : SliceIs w 11 va (l.map Letter.cells)) (hb : SliceIs w 11 vb (l.map Letter.cells)) :
    Calls Tryz.prog 23 #[va, vb] w fun e w' => e = .returned (.bool true) ∧ ∃ n, w' = w.drewN n := by
  obtain ⟨A, ca, rfl, a1, a2, a3⟩ := sliceOf ha
  obtain ⟨B, cb, rfl, b1, b2, b3⟩ := sliceOf hb
  clear ha hb
  have A3 := Lib.hid a3
  have B3 := Lib.hid b3
  clear a3 b3
  have hl1 : ((l.length : Int) != (l.length : Int)) = false := by simp
  go_enter Tryz.func23, Tryz.ntmps23
  go_wp2_with fail
  go_loopw [5] (fun i wr => ∃ (k n : Nat), k ≤ l.length ∧ i = .int .i64 k ∧ wr = w.drewN n) (fun i _ => l.length - (intOf i).toNat)
  case atStart => exact ⟨0, 0, Nat.zero_le _, rfl, rfl⟩
  case round =>
    obtain ⟨k, n, hk, rfl, rfl⟩ := hrel
    by_cases hlt : k < l.length
    · obtain ⟨q, off, rfl, hc⟩ := A3.out (by omega)
      obtain ⟨q', off', rfl, hc'⟩ := B3.out (by omega)
      have h1 := hc k hlt
      have h2 := hc' k hlt
      clear hc hc'
      generalize l[k] = x at h1 h2
      obtain ⟨c0, c1, c2, c3, c4, c5, c6, c7, c8, c9, c10⟩ := Letter.range h1
      obtain ⟨d0, d1, d2, d3, d4, d5, d6, d7, d8, d9, d10⟩ := Letter.range h2
      clear h1 h2
      go_wp2_with fail
      go_quiet (fail)
      go_wp2_with fail
      exact ⟨⟨k + 1, _, by omega, by go_num, rfl⟩, by simp [intOf]; omega⟩
    · go_wp2_with fail
      go_ret
      exact ⟨rfl, _, rfl⟩
theorem tyActives : SlTy Tryz.prog 48 124 3 24 (⟨0, 0, 0⟩ : Active).val := ⟨Tryz.underlying48, by kernel_rfl, rfl, by decide, by decide⟩
theorem actives_ok (l : List Active) : RowsOk 3 (l.map Active.cells) := rowsOk_of (sz := 3) (cells := Active.cells) (fun _ => rfl) (fun x u hu => by simp only [Active.cells, List.mem_cons, List.not_mem_nil, or_false] at hu; rcases hu with rfl | rfl | rfl <;> rfl) l
set_option maxHeartbeats 4000000 in
theorem active_same (l : List Active) (va vb : Value) (w : World) (ha : SliceIs w 3 va (l.map Active.cells)) (hb : SliceIs w 3 vb (l.map Active.cells)) :
    Calls Tryz.prog 46 #[va, vb] w fun e w' => e = .returned (.bool true) ∧ ∃ n, w' = w.drewN n := by
  obtain ⟨A, ca, rfl, a1, a2, a3⟩ := sliceOf ha
  obtain ⟨B, cb, rfl, b1, b2, b3⟩ := sliceOf hb
  clear ha hb
  have A3 := Lib.hid a3
  have B3 := Lib.hid b3
  clear a3 b3
  have hl1 : ((l.length : Int) != (l.length : Int)) = false := by simp
  go_enter Tryz.func46, Tryz.ntmps46
  go_wp2_with fail
  go_loopw [5] (fun i wr => ∃ (k n : Nat), k ≤ l.length ∧ i = .int .i64 k ∧ wr = w.drewN n) (fun i _ => l.length - (intOf i).toNat)
  case atStart => exact ⟨0, 0, Nat.zero_le _, rfl, rfl⟩
  case round =>
    obtain ⟨k, n, hk, rfl, rfl⟩ := hrel
    by_cases hlt : k < l.length
    · obtain ⟨q, off, rfl, hc⟩ := A3.out (by omega)
      obtain ⟨q', off', rfl, hc'⟩ := B3.out (by omega)
      have h1 := hc k hlt
      have h2 := hc' k hlt
      clear hc hc'
      generalize l[k] = x at h1 h2
      obtain ⟨c0, c1, c2⟩ := Active.range h1
      obtain ⟨d0, d1, d2⟩ := Active.range h2
      clear h1 h2
      go_wp2_with fail
      go_quiet (fail)
      go_wp2_with fail
      exact ⟨⟨k + 1, _, by omega, by go_num, rfl⟩, by simp [intOf]; omega⟩
    · go_wp2_with fail
      go_ret
      exact ⟨rfl, _, rfl⟩
theorem tyDones : SlTy Tryz.prog 33 60 7 56 (⟨0, 0, ⟨0, false, 0⟩, 0, 0⟩ : Done).val := ⟨Tryz.underlying33, by kernel_rfl, rfl, by decide, by decide⟩
theorem dones_ok (l : List Done) : RowsOk 7 (l.map Done.cells) := rowsOk_of (sz := 7) (cells := Done.cells) (fun _ => rfl) (fun x u hu => by simp only [Done.cells, List.mem_cons, List.not_mem_nil, or_false] at hu; rcases hu with rfl | rfl | rfl | rfl | rfl | rfl | rfl <;> rfl) l
set_option maxHeartbeats 4000000 in
theorem done_same (l : List Done) (va vb : Value) (w : World) (ha : SliceIs w 7 va (l.map Done.cells)) (hb : SliceIs w 7 vb (l.map Done.cells)) :
    Calls Tryz.prog 19 #[va, vb] w fun e w' => e = .returned (.bool true) ∧ ∃ n, w' = w.drewN n := by
  obtain ⟨A, ca, rfl, a1, a2, a3⟩ := sliceOf ha
  obtain ⟨B, cb, rfl, b1, b2, b3⟩ := sliceOf hb
  clear ha hb
  have A3 := Lib.hid a3
  have B3 := Lib.hid b3
  clear a3 b3
  have hl1 : ((l.length : Int) != (l.length : Int)) = false := by simp
  go_enter Tryz.func19, Tryz.ntmps19
  go_wp2_with fail
  go_loopw [5] (fun i wr => ∃ (k n : Nat), k ≤ l.length ∧ i = .int .i64 k ∧ wr = w.drewN n) (fun i _ => l.length - (intOf i).toNat)
  case atStart => exact ⟨0, 0, Nat.zero_le _, rfl, rfl⟩
  case round =>
    obtain ⟨k, n, hk, rfl, rfl⟩ := hrel
    by_cases hlt : k < l.length
    · obtain ⟨q, off, rfl, hc⟩ := A3.out (by omega)
      obtain ⟨q', off', rfl, hc'⟩ := B3.out (by omega)
      have h1 := hc k hlt
      have h2 := hc' k hlt
      clear hc hc'
      generalize l[k] = x at h1 h2
      obtain ⟨c0, c1, c2, c3, c4, c5, c6⟩ := Done.range h1
      obtain ⟨d0, d1, d2, d3, d4, d5, d6⟩ := Done.range h2
      clear h1 h2
      go_wp2_with fail
      go_quiet (fail)
      go_wp2_with fail
      exact ⟨⟨k + 1, _, by omega, by go_num, rfl⟩, by simp [intOf]; omega⟩
    · go_wp2_with fail
      go_ret
      exact ⟨rfl, _, rfl⟩
theorem bundles_ok (l : List Bundle) : RowsOk 4 (l.map Bundle.cells) := rowsOk_of (sz := 4) (cells := Bundle.cells) (fun _ => rfl) (fun x u hu => by simp only [Bundle.cells, List.mem_cons, List.not_mem_nil, or_false] at hu; rcases hu with rfl | rfl | rfl | rfl <;> rfl) l
theorem entrys_ok (l : List Entry) : RowsOk 5 (l.map Entry.cells) := rowsOk_of (sz := 5) (cells := Entry.cells) (fun _ => rfl) (fun x u hu => by simp only [Entry.cells, List.mem_cons, List.not_mem_nil, or_false] at hu; rcases hu with rfl | rfl | rfl | rfl | rfl <;> rfl) l
end Go.Proofs.YtchlioikkhnidaaGreat
