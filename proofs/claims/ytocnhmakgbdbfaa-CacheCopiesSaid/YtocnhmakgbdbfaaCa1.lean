/-
  Tokens: what the calls of bundle and perm come to, and the document's.
-/
import Derived.Test.YtocnhmakgbdbfaaCaM
import Derived.Test.YtocnhmakgbdbfaaR
import Derived.Test.YtocnhmakgbdbfaaJ5
namespace Go.Proofs.Ytocnhmakgbdbfaa
open Go.RowKit Go.Sort Go.ChangeShapes Go.WideShapes Go.ChangeAt
open Go.ChangeMaps (setBlock)
set_option linter.unusedVariables false
set_option linter.unusedSimpArgs false

/-- What a call of plain data leaves: blocks of its own alone. -/
def Pure (w : World) (v : Value) : Ending → World → Prop := fun e w' => e = .returned v ∧ Below w.heap.size w w'
theorem pure_of {w w' : World} {v v' : Value} (h : v = v') (hc : Chg (fun _ => False) w w') : Pure w v' (.returned v) w' := ⟨by rw [h], hc.below⟩

set_option maxHeartbeats 1000000 in
theorem valued_calls (n : Int) (o h : Bool) (d : Int) (w : World) : Calls Try.prog 71 #[.int .i64 n, .bool o, .bool h, .int .i64 d] w (Pure w (Bundle.valued n o h d).val) := by
  cases h
  all_goals
    go_enter Try.func71, Try.ntmps71
    go_wp2_with fail
    (try simp only [Exit.inBlock, Exit.then])
    refine bodyRet1 _ rfl rfl (ResIs.row Try.underlying47 rfl (by kernel_rfl) rfl (by simp [go_sem]; exact ⟨rfl, rfl, rfl⟩)) ?_
    exact pure_of rfl (by repeat (first | with_reducible exact Chg.refl _ _ | with_reducible exact chg0 | with_reducible refine Chg.drewN ?_ _ | with_reducible refine Chg.drew ?_ | with_reducible refine Chg.alloc ?_ _ | with_reducible refine Chg.setCell ?_ _ _ (by first | (simp; done) | omega | (simp; omega)) | with_reducible refine Chg.setBlock ?_ _ _ (by first | (simp; done) | omega | (simp; omega)) | exact Chg.refl _ _))

set_option maxHeartbeats 1000000 in
theorem Join_calls (h b : Bundle) (w : World) (g : h.Good) (h1 : h.count ≤ 1000000000000) (h2 : b.count ≤ 1000000000000) (h3 : 0 ≤ b.count) :
    Calls Try.prog 51 #[h.val, b.val] w (Pure w (h.join b).val) := by
  have hpos := g.pos
  have hdat := Lib.hid g.data
  obtain ⟨hc, ho, hh, hd⟩ := h
  obtain ⟨bc, bo, bh, bd⟩ := b
  simp only at h1 h2 h3 hpos
  have e1 : IntKind.i64.wrap (hc + bc) = hc + bc := by rw [IntKind.wrap_i64]; omega
  simp only [Bundle.val, Bundle.cells]
  cases ho <;> cases hh <;> cases bo <;> cases bh
  all_goals
    go_enter Try.func51, Try.ntmps51
    go_wp2_with fail
    refine (valued_calls _ _ _ _ _).mono ?_
    rintro e w' ⟨rfl, hb⟩
    simp only [Bundle.val, Bundle.cells]
    have obr : ob w' (w.heap.size + 1 + 1) = some (.cells #[.int .i64 0, .bool false, .bool false, .int .i64 0] 47 (0, 0)) := (Chg.of_below (S := fun _ => False) hb).ob (by simp [go_sem]) (fun h => h)
    obtain ⟨u0, u1, u2, u3, ufr⟩ := ob_cells4 obr
    have chg0 : Chg (fun _ => False) w w' := Chg.of_below (below_trans (Chg.below (by repeat (first | with_reducible exact Chg.refl _ _ | with_reducible exact chg0 | with_reducible refine Chg.drewN ?_ _ | with_reducible refine Chg.drew ?_ | with_reducible refine Chg.alloc ?_ _ | with_reducible refine Chg.setCell ?_ _ _ (by first | (simp; done) | omega | (simp; omega)) | with_reducible refine Chg.setBlock ?_ _ _ (by first | (simp; done) | omega | (simp; omega)) | exact Chg.refl _ _))) hb)
    clear hb
    go_wp2_with fail
    (try simp only [Exit.inBlock, Exit.then])
    refine bodyRet1 _ rfl rfl (ResIs.row Try.underlying47 rfl (by kernel_rfl) rfl (by simp [go_sem, obr]; exact ⟨rfl, rfl, rfl⟩)) ?_
    refine pure_of ?_ (by repeat (first | with_reducible exact Chg.refl _ _ | with_reducible exact chg0 | with_reducible refine Chg.drewN ?_ _ | with_reducible refine Chg.drew ?_ | with_reducible refine Chg.alloc ?_ _ | with_reducible refine Chg.setCell ?_ _ _ (by first | (simp; done) | omega | (simp; omega)) | with_reducible refine Chg.setBlock ?_ _ _ (by first | (simp; done) | omega | (simp; omega)) | exact Chg.refl _ _))
    simp [Bundle.valued, Bundle.join, Bundle.val, Bundle.cells]
    try exact (hdat.out trivial).symm

set_option maxHeartbeats 1000000 in
theorem RefCheck_calls (b : Bundle) (tokens : Int) (w : World) : Calls Try.prog 53 #[b.val, .int .i64 tokens] w (Pure w (.int .i64 (b.check tokens))) := by
  obtain ⟨bc, bo, bh, bd⟩ := b
  simp only [Bundle.val, Bundle.cells]
  by_cases q1 : bc < 0
  · have q1' : decide (bc < 0) = true := by simpa using q1
    go_enter Try.func53, Try.ntmps53
    go_wp2_with fail
    go_ret
    exact pure_of (by simp [Bundle.check, q1]) (by repeat (first | with_reducible exact Chg.refl _ _ | with_reducible exact chg0 | with_reducible refine Chg.drewN ?_ _ | with_reducible refine Chg.drew ?_ | with_reducible refine Chg.alloc ?_ _ | with_reducible refine Chg.setCell ?_ _ _ (by first | (simp; done) | omega | (simp; omega)) | with_reducible refine Chg.setBlock ?_ _ _ (by first | (simp; done) | omega | (simp; omega)) | exact Chg.refl _ _))
  have q1' : decide (bc < 0) = false := by simpa using q1
  by_cases q2 : tokens < bc
  · have q2' : decide (tokens < bc) = true := by simpa using q2
    go_enter Try.func53, Try.ntmps53
    go_wp2_with fail
    go_ret
    exact pure_of (by simp [Bundle.check, q2]) (by repeat (first | with_reducible exact Chg.refl _ _ | with_reducible exact chg0 | with_reducible refine Chg.drewN ?_ _ | with_reducible refine Chg.drew ?_ | with_reducible refine Chg.alloc ?_ _ | with_reducible refine Chg.setCell ?_ _ _ (by first | (simp; done) | omega | (simp; omega)) | with_reducible refine Chg.setBlock ?_ _ _ (by first | (simp; done) | omega | (simp; omega)) | exact Chg.refl _ _))
  have q2' : decide (tokens < bc) = false := by simpa using q2
  by_cases q3 : bc = 0
  · subst q3
    cases bo <;> cases bh
    all_goals
      by_cases q4 : bd = 0
      · have q4' : (bd != 0) = false := by simpa using q4
        have Q4 := Lib.hid q4
        clear q4
        go_enter Try.func53, Try.ntmps53
        go_wp2_with fail
        go_ret
        exact pure_of (by simp [Bundle.check, q2, Q4.out]) (by repeat (first | with_reducible exact Chg.refl _ _ | with_reducible exact chg0 | with_reducible refine Chg.drewN ?_ _ | with_reducible refine Chg.drew ?_ | with_reducible refine Chg.alloc ?_ _ | with_reducible refine Chg.setCell ?_ _ _ (by first | (simp; done) | omega | (simp; omega)) | with_reducible refine Chg.setBlock ?_ _ _ (by first | (simp; done) | omega | (simp; omega)) | exact Chg.refl _ _))
      · have q4' : (bd != 0) = true := by simpa using q4
        go_enter Try.func53, Try.ntmps53
        go_wp2_with fail
        go_ret
        exact pure_of (by simp [Bundle.check, q2, q4]) (by repeat (first | with_reducible exact Chg.refl _ _ | with_reducible exact chg0 | with_reducible refine Chg.drewN ?_ _ | with_reducible refine Chg.drew ?_ | with_reducible refine Chg.alloc ?_ _ | with_reducible refine Chg.setCell ?_ _ _ (by first | (simp; done) | omega | (simp; omega)) | with_reducible refine Chg.setBlock ?_ _ _ (by first | (simp; done) | omega | (simp; omega)) | exact Chg.refl _ _))
  · have q3' : (bc == 0) = false := by simpa using q3
    cases bo <;> cases bh
    all_goals
      by_cases q4 : bd = 0
      · have q4' : (bd != 0) = false := by simpa using q4
        have Q4 := Lib.hid q4
        clear q4
        go_enter Try.func53, Try.ntmps53
        go_wp2_with fail
        go_ret
        exact pure_of (by simp [Bundle.check, q1, q2, q3, Q4.out]) (by repeat (first | with_reducible exact Chg.refl _ _ | with_reducible exact chg0 | with_reducible refine Chg.drewN ?_ _ | with_reducible refine Chg.drew ?_ | with_reducible refine Chg.alloc ?_ _ | with_reducible refine Chg.setCell ?_ _ _ (by first | (simp; done) | omega | (simp; omega)) | with_reducible refine Chg.setBlock ?_ _ _ (by first | (simp; done) | omega | (simp; omega)) | exact Chg.refl _ _))
      · have q4' : (bd != 0) = true := by simpa using q4
        go_enter Try.func53, Try.ntmps53
        go_wp2_with fail
        go_ret
        exact pure_of (by simp [Bundle.check, q1, q2, q3, q4]) (by repeat (first | with_reducible exact Chg.refl _ _ | with_reducible exact chg0 | with_reducible refine Chg.drewN ?_ _ | with_reducible refine Chg.drew ?_ | with_reducible refine Chg.alloc ?_ _ | with_reducible refine Chg.setCell ?_ _ _ (by first | (simp; done) | omega | (simp; omega)) | with_reducible refine Chg.setBlock ?_ _ _ (by first | (simp; done) | omega | (simp; omega)) | exact Chg.refl _ _))

theorem RefRight_calls (b : Bundle) (tokens : Int) (w : World) : Calls Try.prog 29 #[b.val, .int .i64 tokens] w (Pure w (.bool (decide (b.check tokens = 0)))) := by
  simp only [Bundle.val, Bundle.cells]
  go_enter Try.func29, Try.ntmps29
  go_wp2_with fail
  refine (RefCheck_calls b tokens _).mono ?_
  rintro e w' ⟨rfl, hb⟩
  go_wp2_with fail
  go_ret
  exact ⟨rfl, below_trans (Chg.below (by repeat (first | with_reducible exact Chg.refl _ _ | with_reducible exact chg0 | with_reducible refine Chg.drewN ?_ _ | with_reducible refine Chg.drew ?_ | with_reducible refine Chg.alloc ?_ _ | with_reducible refine Chg.setCell ?_ _ _ (by first | (simp; done) | omega | (simp; omega)) | with_reducible refine Chg.setBlock ?_ _ _ (by first | (simp; done) | omega | (simp; omega)) | exact Chg.refl _ _))) hb⟩

set_option maxHeartbeats 1000000 in
theorem Reads_calls (h : Bundle) (w : World) : Calls Try.prog 73 #[h.val] w (Pure w (.bool (decide (1 ≤ h.count) && h.has))) := by
  obtain ⟨hc, ho, hh, hd⟩ := h
  simp only [Bundle.val, Bundle.cells]
  go_enter Try.func73, Try.ntmps73
  go_wp2_with fail
  all_goals
    go_ret
    refine pure_of ?_ (by repeat (first | with_reducible exact Chg.refl _ _ | with_reducible exact chg0 | with_reducible refine Chg.drewN ?_ _ | with_reducible refine Chg.drew ?_ | with_reducible refine Chg.alloc ?_ _ | with_reducible refine Chg.setCell ?_ _ _ (by first | (simp; done) | omega | (simp; omega)) | with_reducible refine Chg.setBlock ?_ _ _ (by first | (simp; done) | omega | (simp; omega)) | exact Chg.refl _ _))
    simp_all <;> omega
set_option maxHeartbeats 1000000 in
theorem Writes_calls (h : Bundle) (tokens : Int) (w : World) : Calls Try.prog 72 #[h.val, .int .i64 tokens] w (Pure w (.bool ((decide (1 ≤ h.count) && h.has) && decide (h.count = tokens)))) := by
  simp only [Bundle.val, Bundle.cells]
  go_enter Try.func72, Try.ntmps72
  go_wp2_with fail
  refine (Reads_calls h _).mono ?_
  rintro e w' ⟨rfl, hb⟩
  have chg0 : Chg (fun _ => False) w w' := Chg.of_below (below_trans (Chg.below (by repeat (first | with_reducible exact Chg.refl _ _ | with_reducible exact chg0 | with_reducible refine Chg.drewN ?_ _ | with_reducible refine Chg.drew ?_ | with_reducible refine Chg.alloc ?_ _ | with_reducible refine Chg.setCell ?_ _ _ (by first | (simp; done) | omega | (simp; omega)) | with_reducible refine Chg.setBlock ?_ _ _ (by first | (simp; done) | omega | (simp; omega)) | exact Chg.refl _ _))) hb)
  obtain ⟨r, hr⟩ : ∃ r, r = (decide (1 ≤ h.count) && h.has) := ⟨_, rfl⟩
  have c0 : w'.cell? ⟨w.heap.size, 0, none⟩ = some (.int .i64 h.count) := by rw [hb.cell (by simp)]; simp [go_sem]
  rw [← hr]
  have HR := Lib.hid hr
  clear hr hb
  cases r
  all_goals
    go_wp2_with fail
    all_goals go_ret
    all_goals refine pure_of ?_ (by repeat (first | with_reducible exact Chg.refl _ _ | with_reducible exact chg0 | with_reducible refine Chg.drewN ?_ _ | with_reducible refine Chg.drew ?_ | with_reducible refine Chg.alloc ?_ _ | with_reducible refine Chg.setCell ?_ _ _ (by first | (simp; done) | omega | (simp; omega)) | with_reducible refine Chg.setBlock ?_ _ _ (by first | (simp; done) | omega | (simp; omega)) | exact Chg.refl _ _))
    all_goals rw [← HR.out]
    all_goals simp [beq_int]
end Go.Proofs.Ytocnhmakgbdbfaa