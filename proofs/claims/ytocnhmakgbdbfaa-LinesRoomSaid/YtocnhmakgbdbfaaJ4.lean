/-
  Maps from whole numbers to whole numbers.
-/
import Derived.Test.YtocnhmakgbdbfaaRows
import Derived.Test.YtocnhmakgbdbfaaJ3
namespace Go.Proofs.Ytocnhmakgbdbfaa
open Go.RowKit

theorem tyII : MapTy Try.prog 37 3 3 (.int .i64 0) := ⟨Try.underlying37, Try.underlying3, fun _ => by kernel_rfl⟩

def IntMap (f : Int → Int) (g : Int → Option Value) : Prop := ∀ k, (g k).getD (.int .i64 0) = .int .i64 (f k)
theorem IntMap.upd {f : Int → Int} {g : Int → Option Value} (h : IntMap f g) (k v : Int) : IntMap (fun j => if j = k then v else f j) (upd g k (.int .i64 v)) := by
  intro j
  unfold Ytocnhmakgbdbfaa.upd
  split
  · rename_i e; simp [e]
  · rename_i e; simp [e, h j]
theorem IntMap.empty : IntMap (fun _ => 0) (fun _ => none) := fun _ => rfl
end Go.Proofs.Ytocnhmakgbdbfaa
