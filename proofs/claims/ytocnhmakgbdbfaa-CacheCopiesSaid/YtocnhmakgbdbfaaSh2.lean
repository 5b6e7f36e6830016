/-
  What the program calls of Go's library, laid at its numbers: each contract's table of numbers and the facts that it asks.
-/
import Derived.Test.YtocnhmakgbdbfaaProg
import Derived.Ground.NamesProg
import Derived.Ground.Names2Prog
import Derived.Shelf.SlGeneric
import Derived.Ground.SlmcProg
import Derived.Shelf.SlMaps.Clone
namespace Go.Proofs
open Go.Shelf
def Ytocnhmakgbdbfaa.layCloneB_ren : Go.Shelf.Ren := ⟨fun | 5 => 66 | 7 => 78 | n => n, fun | 23 => 84 | 25 => 3 | 3 => 47 | 4 => 4 | 20 => 20 | n => n, fun | n => n⟩
theorem Ytocnhmakgbdbfaa.layCloneB : Go.Proofs.SlLaysW.n5 Try.prog Ytocnhmakgbdbfaa.layCloneB_ren := {
  mixed := by kernel_rfl
  f5 := ⟨Try.f66.name, by decide, Try.func66.trans (congrArg some (by kernel_rfl))⟩
  f7 := Try.func78.trans (congrArg some (by kernel_rfl))
  t4 := Try.underlying4
  a4 := Try.isAgg4
  z4 := Try.sizeOf4
  v4 := Try.zeroValue4
  t20 := Try.underlying20
  a20 := Try.isAgg20
  z20 := Try.sizeOf20
  v20 := Try.zeroValue20
  t23 := Try.underlying84
  a23 := Try.isAgg84
  z23 := Try.sizeOf84
  v23 := Try.zeroValue84 }
end Go.Proofs
