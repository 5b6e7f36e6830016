/-
  What the program's plain functions on letters, configurations and tokens come to.
-/
import Derived.Test.YtchlioikkhnidaaGreatMA
import Derived.Test.YtchlioikkhnidaaGreatMF
set_option linter.unusedVariables false
set_option linter.unusedSimpArgs false
namespace Go.Proofs.YtchlioikkhnidaaGreat
open Go.RowKit Go.Sort Go.ChangeShapes Go.WideShapes Go.ChangeAt
open Go.ChangeMaps (setBlock)
set_option linter.unusedVariables false
set_option linter.unusedSimpArgs false

set_option maxHeartbeats 4000000 in
set_option maxRecDepth 20000 in
theorem BCheck_calls (b : Bundle) (tokens : Int) (w : World) : Calls Tryz.prog 85 #[b.val, .int .i64 tokens] w (Pure w (.int .i64 (b.check tokens))) := by
  obtain ⟨bc, bo, bh, bd⟩ := b
  simp only [Bundle.val, Bundle.cells]
  by_cases q1 : bc < 0
  · have q1' : decide (bc < 0) = true := by simpa using q1
    go_enter Tryz.func85, Tryz.ntmps85
    go_wp2_with fail
    go_ret
    exact pure_of (by simp [Bundle.check, q1]) (by repeat (first | with_reducible exact Chg.refl _ _ | with_reducible exact chg0 | with_reducible refine Chg.drewN ?_ _ | with_reducible refine Chg.drew ?_ | with_reducible refine Chg.alloc ?_ _ | with_reducible refine Chg.setCell ?_ _ _ (by first | (simp; done) | omega | (simp; omega)) | with_reducible refine Chg.setBlock ?_ _ _ (by first | (simp; done) | omega | (simp; omega)) | exact Chg.refl _ _))
  have q1' : decide (bc < 0) = false := by simpa using q1
  by_cases q2 : tokens < bc
  · have q2' : decide (tokens < bc) = true := by simpa using q2
    go_enter Tryz.func85, Tryz.ntmps85
    go_wp2_with fail
    go_ret
    exact pure_of (by simp [Bundle.check, q2]) (by repeat (first | with_reducible exact Chg.refl _ _ | with_reducible exact chg0 | with_reducible refine Chg.drewN ?_ _ | with_reducible refine Chg.drew ?_ | with_reducible refine Chg.alloc ?_ _ | with_reducible refine Chg.setCell ?_ _ _ (by first | (simp; done) | omega | (simp; omega)) | with_reducible refine Chg.setBlock ?_ _ _ (by first | (simp; done) | omega | (simp; omega)) | exact Chg.refl _ _))
  have q2' : decide (tokens < bc) = false := by simpa using q2
  by_cases q3 : bc = 0
  · subst q3
    cases bo <;> cases bh
    all_goals
      by_cases q4 : bd = 0
      · have q4' : (bd != 0) = false := by simpa using q4
        have Q4 := Lib.hid q4
        clear q4
        go_enter Tryz.func85, Tryz.ntmps85
        go_wp2_with fail
        go_ret
        exact pure_of (by simp [Bundle.check, q2, Q4.out]) (by repeat (first | with_reducible exact Chg.refl _ _ | with_reducible exact chg0 | with_reducible refine Chg.drewN ?_ _ | with_reducible refine Chg.drew ?_ | with_reducible refine Chg.alloc ?_ _ | with_reducible refine Chg.setCell ?_ _ _ (by first | (simp; done) | omega | (simp; omega)) | with_reducible refine Chg.setBlock ?_ _ _ (by first | (simp; done) | omega | (simp; omega)) | exact Chg.refl _ _))
      · have q4' : (bd != 0) = true := by simpa using q4
        go_enter Tryz.func85, Tryz.ntmps85
        go_wp2_with fail
        go_ret
        exact pure_of (by simp [Bundle.check, q2, q4]) (by repeat (first | with_reducible exact Chg.refl _ _ | with_reducible exact chg0 | with_reducible refine Chg.drewN ?_ _ | with_reducible refine Chg.drew ?_ | with_reducible refine Chg.alloc ?_ _ | with_reducible refine Chg.setCell ?_ _ _ (by first | (simp; done) | omega | (simp; omega)) | with_reducible refine Chg.setBlock ?_ _ _ (by first | (simp; done) | omega | (simp; omega)) | exact Chg.refl _ _))
  · have q3' : (bc == 0) = false := by simpa using q3
    cases bo <;> cases bh
    all_goals
      by_cases q4 : bd = 0
      · have q4' : (bd != 0) = false := by simpa using q4
        have Q4 := Lib.hid q4
        clear q4
        go_enter Tryz.func85, Tryz.ntmps85
        go_wp2_with fail
        go_ret
        exact pure_of (by simp [Bundle.check, q1, q2, q3, Q4.out]) (by repeat (first | with_reducible exact Chg.refl _ _ | with_reducible exact chg0 | with_reducible refine Chg.drewN ?_ _ | with_reducible refine Chg.drew ?_ | with_reducible refine Chg.alloc ?_ _ | with_reducible refine Chg.setCell ?_ _ _ (by first | (simp; done) | omega | (simp; omega)) | with_reducible refine Chg.setBlock ?_ _ _ (by first | (simp; done) | omega | (simp; omega)) | exact Chg.refl _ _))
      · have q4' : (bd != 0) = true := by simpa using q4
        go_enter Tryz.func85, Tryz.ntmps85
        go_wp2_with fail
        go_ret
        exact pure_of (by simp [Bundle.check, q1, q2, q3, q4]) (by repeat (first | with_reducible exact Chg.refl _ _ | with_reducible exact chg0 | with_reducible refine Chg.drewN ?_ _ | with_reducible refine Chg.drew ?_ | with_reducible refine Chg.alloc ?_ _ | with_reducible refine Chg.setCell ?_ _ _ (by first | (simp; done) | omega | (simp; omega)) | with_reducible refine Chg.setBlock ?_ _ _ (by first | (simp; done) | omega | (simp; omega)) | exact Chg.refl _ _))

set_option maxHeartbeats 4000000 in
theorem end_calls (c : Config) (at_ : Int) (home node : Bool) (w : World) :
    Calls Tryz.prog 83 #[c.val, .int .i64 at_, .bool home, .bool node] w (Pure w (.bool ((home && decide (at_ = c.nodes)) || (node && isNode c at_)))) := by
  simp only [Config.val, Config.cells]
  by_cases q1 : at_ = c.nodes
  · have q1' : (at_ == c.nodes) = true := by simpa using q1
    have Q1 := Lib.hid q1
    by_cases q2 : 0 ≤ at_
    · have q2' : decide (0 ≤ at_) = true := by simpa using q2
      by_cases q3 : at_ < c.nodes
      · omega
      have q3' : decide (at_ < c.nodes) = false := by simpa using q3
      clear q1
      cases home <;> cases node
      all_goals
        go_enter Tryz.func83, Tryz.ntmps83
        go_wp2_with fail
        go_ret
        exact pure_of (by simp [isNode, q2', q3', Q1.out]) (by repeat (first | with_reducible exact Chg.refl _ _ | with_reducible exact chg0 | with_reducible refine Chg.drewN ?_ _ | with_reducible refine Chg.drew ?_ | with_reducible refine Chg.alloc ?_ _ | with_reducible refine Chg.setCell ?_ _ _ (by first | (simp; done) | omega | (simp; omega)) | with_reducible refine Chg.setBlock ?_ _ _ (by first | (simp; done) | omega | (simp; omega)) | exact Chg.refl _ _))
    · have q2' : decide (0 ≤ at_) = false := by simpa using q2
      clear q1
      cases home <;> cases node
      all_goals
        go_enter Tryz.func83, Tryz.ntmps83
        go_wp2_with fail
        go_ret
        exact pure_of (by simp [isNode, Q1.out]; try omega) (by repeat (first | with_reducible exact Chg.refl _ _ | with_reducible exact chg0 | with_reducible refine Chg.drewN ?_ _ | with_reducible refine Chg.drew ?_ | with_reducible refine Chg.alloc ?_ _ | with_reducible refine Chg.setCell ?_ _ _ (by first | (simp; done) | omega | (simp; omega)) | with_reducible refine Chg.setBlock ?_ _ _ (by first | (simp; done) | omega | (simp; omega)) | exact Chg.refl _ _))
  · have q1' : (at_ == c.nodes) = false := by simpa using q1
    have q1'' : decide (at_ = c.nodes) = false := by simpa using q1
    by_cases q2 : 0 ≤ at_
    · have q2' : decide (0 ≤ at_) = true := by simpa using q2
      by_cases q3 : at_ < c.nodes
      · have q3' : decide (at_ < c.nodes) = true := by simpa using q3
        cases home <;> cases node
        all_goals
          go_enter Tryz.func83, Tryz.ntmps83
          go_wp2_with fail
          go_ret
          exact pure_of (by simp [isNode, q2', q3', q1]) (by repeat (first | with_reducible exact Chg.refl _ _ | with_reducible exact chg0 | with_reducible refine Chg.drewN ?_ _ | with_reducible refine Chg.drew ?_ | with_reducible refine Chg.alloc ?_ _ | with_reducible refine Chg.setCell ?_ _ _ (by first | (simp; done) | omega | (simp; omega)) | with_reducible refine Chg.setBlock ?_ _ _ (by first | (simp; done) | omega | (simp; omega)) | exact Chg.refl _ _))
      have q3' : decide (at_ < c.nodes) = false := by simpa using q3
      cases home <;> cases node
      all_goals
        go_enter Tryz.func83, Tryz.ntmps83
        go_wp2_with fail
        go_ret
        exact pure_of (by simp [isNode, q2', q3', q1]; try omega) (by repeat (first | with_reducible exact Chg.refl _ _ | with_reducible exact chg0 | with_reducible refine Chg.drewN ?_ _ | with_reducible refine Chg.drew ?_ | with_reducible refine Chg.alloc ?_ _ | with_reducible refine Chg.setCell ?_ _ _ (by first | (simp; done) | omega | (simp; omega)) | with_reducible refine Chg.setBlock ?_ _ _ (by first | (simp; done) | omega | (simp; omega)) | exact Chg.refl _ _))
    · have q2' : decide (0 ≤ at_) = false := by simpa using q2
      cases home <;> cases node
      all_goals
        go_enter Tryz.func83, Tryz.ntmps83
        go_wp2_with fail
        go_ret
        exact pure_of (by simp [isNode, q1]; try omega) (by repeat (first | with_reducible exact Chg.refl _ _ | with_reducible exact chg0 | with_reducible refine Chg.drewN ?_ _ | with_reducible refine Chg.drew ?_ | with_reducible refine Chg.alloc ?_ _ | with_reducible refine Chg.setCell ?_ _ _ (by first | (simp; done) | omega | (simp; omega)) | with_reducible refine Chg.setBlock ?_ _ _ (by first | (simp; done) | omega | (simp; omega)) | exact Chg.refl _ _))
end Go.Proofs.YtchlioikkhnidaaGreat

/-
  What the program's Check of a letter comes to.
-/
namespace Go.Proofs.YtchlioikkhnidaaGreat
open Go.RowKit Go.Sort Go.ChangeShapes Go.WideShapes Go.ChangeAt
open Go.ChangeMaps (setBlock)
set_option linter.unusedVariables false
set_option linter.unusedSimpArgs false

/-- What a kind's letters have. -/
def rowCells (k : Int) : List Value :=
  [.bool (decide (k = 1 ∨ k = 4 ∨ k = 6)), .bool (decide (k = 1 ∨ k = 2 ∨ k = 3 ∨ k = 5 ∨ k = 7)), .bool (decide (k = 1 ∨ k = 2 ∨ k = 3 ∨ k = 5 ∨ k = 7)), .bool (decide (k = 1 ∨ k = 2 ∨ k = 4 ∨ k = 6)), .bool (decide (4 ≤ k)), .bool (decide (k = 4)), .bool (decide (k = 2)), .bool (decide (k = 1))]

set_option maxHeartbeats 4000000 in
set_option maxRecDepth 20000 in
theorem rows_no (k : Int) (w : World) (h : k < 1 ∨ 7 < k) : Calls Tryz.prog 82 #[.int .i64 k] w fun e w' => e = .returned (.tuple #[.agg #[.bool false, .bool false, .bool false, .bool false, .bool false, .bool false, .bool false, .bool false], .bool false]) ∧ Below w.heap.size w w' := by
  rcases h with h | h
  · have h1 : decide (k < 1) = true := by simpa using h
    go_enter Tryz.func82, Tryz.ntmps82
    go_wp2_with fail
    (try simp only [Exit.inBlock, Exit.then])
    refine bodyRet2 _ _ rfl rfl (ResIs.row Tryz.underlying159 rfl (by kernel_rfl) rfl (by simp [go_sem]; exact ⟨rfl, rfl, rfl⟩)) ResIs.tmp ?_
    exact ⟨rfl, Chg.below (by repeat (first | with_reducible exact Chg.refl _ _ | with_reducible exact chg0 | with_reducible refine Chg.drewN ?_ _ | with_reducible refine Chg.drew ?_ | with_reducible refine Chg.alloc ?_ _ | with_reducible refine Chg.setCell ?_ _ _ (by first | (simp; done) | omega | (simp; omega)) | with_reducible refine Chg.setBlock ?_ _ _ (by first | (simp; done) | omega | (simp; omega)) | exact Chg.refl _ _))⟩
  · have h1 : decide (k < 1) = false := by simp; omega
    have h2 : decide (7 < k) = true := by simpa using h
    go_enter Tryz.func82, Tryz.ntmps82
    go_wp2_with fail
    (try simp only [Exit.inBlock, Exit.then])
    refine bodyRet2 _ _ rfl rfl (ResIs.row Tryz.underlying159 rfl (by kernel_rfl) rfl (by simp [go_sem]; exact ⟨rfl, rfl, rfl⟩)) ResIs.tmp ?_
    exact ⟨rfl, Chg.below (by repeat (first | with_reducible exact Chg.refl _ _ | with_reducible exact chg0 | with_reducible refine Chg.drewN ?_ _ | with_reducible refine Chg.drew ?_ | with_reducible refine Chg.alloc ?_ _ | with_reducible refine Chg.setCell ?_ _ _ (by first | (simp; done) | omega | (simp; omega)) | with_reducible refine Chg.setBlock ?_ _ _ (by first | (simp; done) | omega | (simp; omega)) | exact Chg.refl _ _))⟩
set_option maxHeartbeats 4000000 in
set_option maxRecDepth 20000 in
theorem rows_yes (k : Int) (w : World) (h1 : 1 ≤ k) (h2 : k ≤ 7) : Calls Tryz.prog 82 #[.int .i64 k] w fun e w' => e = .returned (.tuple #[.agg (rowCells k).toArray, .bool true]) ∧ Below w.heap.size w w' := by
  have hk : k = 1 ∨ k = 2 ∨ k = 3 ∨ k = 4 ∨ k = 5 ∨ k = 6 ∨ k = 7 := by omega
  clear h1 h2
  have i1 : ∀ w, (Instr.index 206 (.agg #[.bool false, .bool false, .bool false, .bool false, .bool false, .bool false, .bool false, .bool false, .bool true, .bool true, .bool true, .bool true, .bool false, .bool false, .bool false, .bool true, .bool false, .bool true, .bool true, .bool true, .bool false, .bool false, .bool true, .bool false, .bool false, .bool true, .bool true, .bool false, .bool false, .bool false, .bool false, .bool false, .bool true, .bool false, .bool false, .bool true, .bool true, .bool true, .bool false, .bool false, .bool false, .bool true, .bool true, .bool false, .bool true, .bool false, .bool false, .bool false, .bool true, .bool false, .bool false, .bool true, .bool true, .bool false, .bool false, .bool false, .bool false, .bool true, .bool true, .bool false, .bool true, .bool false, .bool false, .bool false]) (.int .i64 1)).run Tryz.prog w = .ok (.agg #[.bool true, .bool true, .bool true, .bool true, .bool false, .bool false, .bool false, .bool true]) w := fun _ => by kernel_rfl
  have i2 : ∀ w, (Instr.index 206 (.agg #[.bool false, .bool false, .bool false, .bool false, .bool false, .bool false, .bool false, .bool false, .bool true, .bool true, .bool true, .bool true, .bool false, .bool false, .bool false, .bool true, .bool false, .bool true, .bool true, .bool true, .bool false, .bool false, .bool true, .bool false, .bool false, .bool true, .bool true, .bool false, .bool false, .bool false, .bool false, .bool false, .bool true, .bool false, .bool false, .bool true, .bool true, .bool true, .bool false, .bool false, .bool false, .bool true, .bool true, .bool false, .bool true, .bool false, .bool false, .bool false, .bool true, .bool false, .bool false, .bool true, .bool true, .bool false, .bool false, .bool false, .bool false, .bool true, .bool true, .bool false, .bool true, .bool false, .bool false, .bool false]) (.int .i64 2)).run Tryz.prog w = .ok (.agg #[.bool false, .bool true, .bool true, .bool true, .bool false, .bool false, .bool true, .bool false]) w := fun _ => by kernel_rfl
  have i3 : ∀ w, (Instr.index 206 (.agg #[.bool false, .bool false, .bool false, .bool false, .bool false, .bool false, .bool false, .bool false, .bool true, .bool true, .bool true, .bool true, .bool false, .bool false, .bool false, .bool true, .bool false, .bool true, .bool true, .bool true, .bool false, .bool false, .bool true, .bool false, .bool false, .bool true, .bool true, .bool false, .bool false, .bool false, .bool false, .bool false, .bool true, .bool false, .bool false, .bool true, .bool true, .bool true, .bool false, .bool false, .bool false, .bool true, .bool true, .bool false, .bool true, .bool false, .bool false, .bool false, .bool true, .bool false, .bool false, .bool true, .bool true, .bool false, .bool false, .bool false, .bool false, .bool true, .bool true, .bool false, .bool true, .bool false, .bool false, .bool false]) (.int .i64 3)).run Tryz.prog w = .ok (.agg #[.bool false, .bool true, .bool true, .bool false, .bool false, .bool false, .bool false, .bool false]) w := fun _ => by kernel_rfl
  have i4 : ∀ w, (Instr.index 206 (.agg #[.bool false, .bool false, .bool false, .bool false, .bool false, .bool false, .bool false, .bool false, .bool true, .bool true, .bool true, .bool true, .bool false, .bool false, .bool false, .bool true, .bool false, .bool true, .bool true, .bool true, .bool false, .bool false, .bool true, .bool false, .bool false, .bool true, .bool true, .bool false, .bool false, .bool false, .bool false, .bool false, .bool true, .bool false, .bool false, .bool true, .bool true, .bool true, .bool false, .bool false, .bool false, .bool true, .bool true, .bool false, .bool true, .bool false, .bool false, .bool false, .bool true, .bool false, .bool false, .bool true, .bool true, .bool false, .bool false, .bool false, .bool false, .bool true, .bool true, .bool false, .bool true, .bool false, .bool false, .bool false]) (.int .i64 4)).run Tryz.prog w = .ok (.agg #[.bool true, .bool false, .bool false, .bool true, .bool true, .bool true, .bool false, .bool false]) w := fun _ => by kernel_rfl
  have i5 : ∀ w, (Instr.index 206 (.agg #[.bool false, .bool false, .bool false, .bool false, .bool false, .bool false, .bool false, .bool false, .bool true, .bool true, .bool true, .bool true, .bool false, .bool false, .bool false, .bool true, .bool false, .bool true, .bool true, .bool true, .bool false, .bool false, .bool true, .bool false, .bool false, .bool true, .bool true, .bool false, .bool false, .bool false, .bool false, .bool false, .bool true, .bool false, .bool false, .bool true, .bool true, .bool true, .bool false, .bool false, .bool false, .bool true, .bool true, .bool false, .bool true, .bool false, .bool false, .bool false, .bool true, .bool false, .bool false, .bool true, .bool true, .bool false, .bool false, .bool false, .bool false, .bool true, .bool true, .bool false, .bool true, .bool false, .bool false, .bool false]) (.int .i64 5)).run Tryz.prog w = .ok (.agg #[.bool false, .bool true, .bool true, .bool false, .bool true, .bool false, .bool false, .bool false]) w := fun _ => by kernel_rfl
  have i6 : ∀ w, (Instr.index 206 (.agg #[.bool false, .bool false, .bool false, .bool false, .bool false, .bool false, .bool false, .bool false, .bool true, .bool true, .bool true, .bool true, .bool false, .bool false, .bool false, .bool true, .bool false, .bool true, .bool true, .bool true, .bool false, .bool false, .bool true, .bool false, .bool false, .bool true, .bool true, .bool false, .bool false, .bool false, .bool false, .bool false, .bool true, .bool false, .bool false, .bool true, .bool true, .bool true, .bool false, .bool false, .bool false, .bool true, .bool true, .bool false, .bool true, .bool false, .bool false, .bool false, .bool true, .bool false, .bool false, .bool true, .bool true, .bool false, .bool false, .bool false, .bool false, .bool true, .bool true, .bool false, .bool true, .bool false, .bool false, .bool false]) (.int .i64 6)).run Tryz.prog w = .ok (.agg #[.bool true, .bool false, .bool false, .bool true, .bool true, .bool false, .bool false, .bool false]) w := fun _ => by kernel_rfl
  have i7 : ∀ w, (Instr.index 206 (.agg #[.bool false, .bool false, .bool false, .bool false, .bool false, .bool false, .bool false, .bool false, .bool true, .bool true, .bool true, .bool true, .bool false, .bool false, .bool false, .bool true, .bool false, .bool true, .bool true, .bool true, .bool false, .bool false, .bool true, .bool false, .bool false, .bool true, .bool true, .bool false, .bool false, .bool false, .bool false, .bool false, .bool true, .bool false, .bool false, .bool true, .bool true, .bool true, .bool false, .bool false, .bool false, .bool true, .bool true, .bool false, .bool true, .bool false, .bool false, .bool false, .bool true, .bool false, .bool false, .bool true, .bool true, .bool false, .bool false, .bool false, .bool false, .bool true, .bool true, .bool false, .bool true, .bool false, .bool false, .bool false]) (.int .i64 7)).run Tryz.prog w = .ok (.agg #[.bool false, .bool true, .bool true, .bool false, .bool true, .bool false, .bool false, .bool false]) w := fun _ => by kernel_rfl
  rcases hk with rfl | rfl | rfl | rfl | rfl | rfl | rfl
  all_goals
    go_enter Tryz.func82, Tryz.ntmps82
    go_wp2_with fail
    (try simp only [Exit.inBlock, Exit.then])
    refine bodyRet2 _ _ rfl rfl (ResIs.row Tryz.underlying159 rfl (by kernel_rfl) rfl (by simp [go_sem]; exact ⟨rfl, rfl, rfl⟩)) ResIs.tmp ?_
    exact ⟨by first | rfl | decide +kernel, Chg.below (by repeat (first | with_reducible exact Chg.refl _ _ | with_reducible exact chg0 | with_reducible refine Chg.drewN ?_ _ | with_reducible refine Chg.drew ?_ | with_reducible refine Chg.alloc ?_ _ | with_reducible refine Chg.setCell ?_ _ _ (by first | (simp; done) | omega | (simp; omega)) | with_reducible refine Chg.setBlock ?_ _ _ (by first | (simp; done) | omega | (simp; omega)) | exact Chg.refl _ _))⟩

end Go.Proofs.YtchlioikkhnidaaGreat
