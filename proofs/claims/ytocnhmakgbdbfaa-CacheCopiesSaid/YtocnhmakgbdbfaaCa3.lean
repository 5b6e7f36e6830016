/-
  Tokens: what Split, Do and May come to, the program's and the document's.
-/
import Derived.Test.YtocnhmakgbdbfaaCa1
import Derived.Test.YtocnhmakgbdbfaaLnR
import Derived.BigRegion
namespace Go.Proofs.Ytocnhmakgbdbfaa
open Go.RowKit Go.Sort Go.ChangeShapes Go.WideShapes Go.ChangeAt
open Go.ChangeMaps (setBlock)
set_option linter.unusedVariables false
set_option linter.unusedSimpArgs false

set_option maxHeartbeats 1000000 in
theorem RefMay_calls (write : Bool) (h : Bundle) (tokens : Int) (w : World) : Calls Try.prog 77 #[.bool write, h.val, .int .i64 tokens] w (Pure w (.bool (h.may write tokens))) := by
  obtain ⟨hc, ho, hh, hd⟩ := h
  simp only [Bundle.val, Bundle.cells]
  go_enter Try.func77, Try.ntmps77
  cases write <;> cases hh
  all_goals
    go_wp2_with fail
    all_goals go_ret
    all_goals refine pure_of ?_ (by repeat (first | with_reducible exact Chg.refl _ _ | with_reducible exact chg0 | with_reducible refine Chg.drewN ?_ _ | with_reducible refine Chg.drew ?_ | with_reducible refine Chg.alloc ?_ _ | with_reducible refine Chg.setCell ?_ _ _ (by first | (simp; done) | omega | (simp; omega)) | with_reducible refine Chg.setBlock ?_ _ _ (by first | (simp; done) | omega | (simp; omega)) | exact Chg.refl _ _))
    all_goals simp only [Bundle.may]
    all_goals (first | (simp_all; done) | (simp_all; omega) | (simp [beq_int]; omega))

set_option maxHeartbeats 1000000 in
theorem RefDo_calls (op : Op) (h : Bundle) (tokens : Int) (w : World) : Calls Try.prog 63 #[op.val, h.val, .int .i64 tokens] w (Pure w (.tuple #[(h.does op tokens).1.val, .int .i64 (h.does op tokens).2.1, .bool (h.does op tokens).2.2])) := by
  have hM := RefMay_calls op.write h tokens
  have hds : h.does op tokens = if h.may op.write tokens = true then (h.done op, (h.done op).data, true) else (h, 0, false) := rfl
  obtain ⟨m, hm⟩ : ∃ m, m = h.may op.write tokens := ⟨_, rfl⟩
  rw [← hm] at hds
  simp only [← hm] at hM
  have HM := Lib.hid hM
  have HDS := Lib.hid hds
  clear hM hds hm
  obtain ⟨obk, ow, ov⟩ := op
  obtain ⟨hc, ho, hh, hd⟩ := h
  simp only [Bundle.val, Bundle.cells, Op.val, Op.cells]
  go_enter Try.func63, Try.ntmps63
  go_wp2_with fail
  refine (HM.out _).mono ?_
  rintro e w' ⟨rfl, hb'⟩
  have o0 : ob w' w.heap.size = some (.cells #[.int .i64 obk, .bool ow, .int .i64 ov] 49 (0, 0)) := (Chg.of_below (S := fun _ => False) hb').ob (by simp [go_sem]) (fun h => h)
  have o1 : ob w' (w.heap.size + 1) = some (.cells #[.int .i64 hc, .bool ho, .bool hh, .int .i64 hd] 47 (0, 0)) := (Chg.of_below (S := fun _ => False) hb').ob (by simp [go_sem]) (fun h => h)
  have o2 : ob w' (w.heap.size + 1 + 1) = some (.cells #[.int .i64 0, .bool false, .bool false, .int .i64 0] 47 (0, 0)) := (Chg.of_below (S := fun _ => False) hb').ob (by simp [go_sem]) (fun h => h)
  obtain ⟨a0, a1, a2, af⟩ := ob_cells3 o0
  obtain ⟨b0, b1, b2, b3, bf⟩ := ob_cells4 o1
  obtain ⟨d0, d1, d2, d3, df⟩ := ob_cells4 o2
  have l0 := ob_lt o0
  have l1 := ob_lt o1
  have l2 := ob_lt o2
  have chg0 : Chg (fun _ => False) w w' := Chg.of_below (below_trans (Chg.below (by repeat (first | with_reducible exact Chg.refl _ _ | with_reducible exact chg0 | with_reducible refine Chg.drewN ?_ _ | with_reducible refine Chg.drew ?_ | with_reducible refine Chg.alloc ?_ _ | with_reducible refine Chg.setCell ?_ _ _ (by first | (simp; done) | omega | (simp; omega)) | with_reducible refine Chg.setBlock ?_ _ _ (by first | (simp; done) | omega | (simp; omega)) | exact Chg.refl _ _))) hb')
  clear hb'
  cases m <;> cases ow
  all_goals
    go_wp2_with fail
    (try (go_big_region; go_wp2_with fail))
    (try simp only [Exit.inBlock, Exit.then])
    refine bodyRet3 _ _ _ rfl rfl (ResIs.row Try.underlying47 rfl (by kernel_rfl) rfl (by simp [go_sem, o1, o2, l1, l2]; exact ⟨rfl, rfl, rfl⟩)) ResIs.tmp ResIs.tmp ?_
    refine pure_of ?_ (by repeat (first | with_reducible exact Chg.refl _ _ | with_reducible exact chg0 | with_reducible refine Chg.drewN ?_ _ | with_reducible refine Chg.drew ?_ | with_reducible refine Chg.alloc ?_ _ | with_reducible refine Chg.setCell ?_ _ _ (by first | (simp; done) | omega | (simp; omega)) | with_reducible refine Chg.setBlock ?_ _ _ (by first | (simp; done) | omega | (simp; omega)) | exact Chg.refl _ _))
    rw [HDS.out]
    rfl

set_option maxHeartbeats 1000000 in
theorem Do_calls (op : Op) (h : Bundle) (tokens : Int) (w : World) : Calls Try.prog 54 #[op.val, h.val, .int .i64 tokens] w (Pure w (.tuple #[(h.does op tokens).1.val, .int .i64 (h.does op tokens).2.1, .bool (h.does op tokens).2.2])) := by
  have hW := Writes_calls h tokens
  have hR := Reads_calls h
  have hds : h.does op tokens = if h.may op.write tokens = true then (h.done op, (h.done op).data, true) else (h, 0, false) := rfl
  have hmw : op.write = true → h.may op.write tokens = ((decide (1 ≤ h.count) && h.has) && decide (h.count = tokens)) := fun e => by rw [e]; simp [Bundle.may]
  have hmr : op.write = false → h.may op.write tokens = (decide (1 ≤ h.count) && h.has) := fun e => by rw [e]; simp [Bundle.may]
  obtain ⟨m, hm⟩ : ∃ m, m = h.may op.write tokens := ⟨_, rfl⟩
  rw [← hm] at hds hmw hmr
  have HDS := Lib.hid hds
  have HWR := Lib.hid (show op.write = true → ∀ w, Calls Try.prog 72 #[h.val, .int .i64 tokens] w (Pure w (.bool m)) from fun e w => by rw [hmw e]; exact hW w)
  have HRD := Lib.hid (show op.write = false → ∀ w, Calls Try.prog 73 #[h.val] w (Pure w (.bool m)) from fun e w => by rw [hmr e]; exact hR w)
  clear hW hR hds hmw hmr hm
  obtain ⟨obk, ow, ov⟩ := op
  obtain ⟨hc, ho, hh, hd⟩ := h
  simp only [Bundle.val, Bundle.cells, Op.val, Op.cells]
  cases ow
  case false =>
    go_enter Try.func54, Try.ntmps54
    go_wp2_with fail
    first | refine (HRD.out (by simp) _).mono ?_ | refine (HWR.out (by simp) _).mono ?_
    rintro e w' ⟨rfl, hb'⟩
    have o0 : ob w' w.heap.size = some (.cells #[.int .i64 obk, .bool false, .int .i64 ov] 49 (0, 0)) := (Chg.of_below (S := fun _ => False) hb').ob (by simp [go_sem]) (fun h => h)
    have o1 : ob w' (w.heap.size + 1) = some (.cells #[.int .i64 hc, .bool ho, .bool hh, .int .i64 hd] 47 (0, 0)) := (Chg.of_below (S := fun _ => False) hb').ob (by simp [go_sem]) (fun h => h)
    have o2 : ob w' (w.heap.size + 1 + 1) = some (.cells #[.int .i64 0, .bool false, .bool false, .int .i64 0] 47 (0, 0)) := (Chg.of_below (S := fun _ => False) hb').ob (by simp [go_sem]) (fun h => h)
    obtain ⟨a0, a1, a2, af⟩ := ob_cells3 o0
    obtain ⟨b0, b1, b2, b3, bf⟩ := ob_cells4 o1
    obtain ⟨d0, d1, d2, d3, df⟩ := ob_cells4 o2
    have l0 := ob_lt o0
    have l1 := ob_lt o1
    have l2 := ob_lt o2
    have chg0 : Chg (fun _ => False) w w' := Chg.of_below (below_trans (Chg.below (by repeat (first | with_reducible exact Chg.refl _ _ | with_reducible exact chg0 | with_reducible refine Chg.drewN ?_ _ | with_reducible refine Chg.drew ?_ | with_reducible refine Chg.alloc ?_ _ | with_reducible refine Chg.setCell ?_ _ _ (by first | (simp; done) | omega | (simp; omega)) | with_reducible refine Chg.setBlock ?_ _ _ (by first | (simp; done) | omega | (simp; omega)) | exact Chg.refl _ _))) hb')
    clear hb'
    cases m
    all_goals
      go_wp2_with fail
      (try (go_big_region; go_wp2_with fail))
      (try simp only [Exit.inBlock, Exit.then])
      refine bodyRet3 _ _ _ rfl rfl (ResIs.row Try.underlying47 rfl (by kernel_rfl) rfl (by simp [go_sem, o1, o2, l1, l2]; exact ⟨rfl, rfl, rfl⟩)) ResIs.tmp ResIs.tmp ?_
      refine pure_of ?_ (by repeat (first | with_reducible exact Chg.refl _ _ | with_reducible exact chg0 | with_reducible refine Chg.drewN ?_ _ | with_reducible refine Chg.drew ?_ | with_reducible refine Chg.alloc ?_ _ | with_reducible refine Chg.setCell ?_ _ _ (by first | (simp; done) | omega | (simp; omega)) | with_reducible refine Chg.setBlock ?_ _ _ (by first | (simp; done) | omega | (simp; omega)) | exact Chg.refl _ _))
      rw [HDS.out]
      rfl
  case true =>
    go_enter Try.func54, Try.ntmps54
    go_wp2_with fail
    first | refine (HRD.out (by simp) _).mono ?_ | refine (HWR.out (by simp) _).mono ?_
    rintro e w' ⟨rfl, hb'⟩
    have o0 : ob w' w.heap.size = some (.cells #[.int .i64 obk, .bool true, .int .i64 ov] 49 (0, 0)) := (Chg.of_below (S := fun _ => False) hb').ob (by simp [go_sem]) (fun h => h)
    have o1 : ob w' (w.heap.size + 1) = some (.cells #[.int .i64 hc, .bool ho, .bool hh, .int .i64 hd] 47 (0, 0)) := (Chg.of_below (S := fun _ => False) hb').ob (by simp [go_sem]) (fun h => h)
    have o2 : ob w' (w.heap.size + 1 + 1) = some (.cells #[.int .i64 0, .bool false, .bool false, .int .i64 0] 47 (0, 0)) := (Chg.of_below (S := fun _ => False) hb').ob (by simp [go_sem]) (fun h => h)
    obtain ⟨a0, a1, a2, af⟩ := ob_cells3 o0
    obtain ⟨b0, b1, b2, b3, bf⟩ := ob_cells4 o1
    obtain ⟨d0, d1, d2, d3, df⟩ := ob_cells4 o2
    have l0 := ob_lt o0
    have l1 := ob_lt o1
    have l2 := ob_lt o2
    have chg0 : Chg (fun _ => False) w w' := Chg.of_below (below_trans (Chg.below (by repeat (first | with_reducible exact Chg.refl _ _ | with_reducible exact chg0 | with_reducible refine Chg.drewN ?_ _ | with_reducible refine Chg.drew ?_ | with_reducible refine Chg.alloc ?_ _ | with_reducible refine Chg.setCell ?_ _ _ (by first | (simp; done) | omega | (simp; omega)) | with_reducible refine Chg.setBlock ?_ _ _ (by first | (simp; done) | omega | (simp; omega)) | exact Chg.refl _ _))) hb')
    clear hb'
    cases m
    all_goals
      go_wp2_with fail
      (try (go_big_region; go_wp2_with fail))
      (try simp only [Exit.inBlock, Exit.then])
      refine bodyRet3 _ _ _ rfl rfl (ResIs.row Try.underlying47 rfl (by kernel_rfl) rfl (by simp [go_sem, o1, o2, l1, l2]; exact ⟨rfl, rfl, rfl⟩)) ResIs.tmp ResIs.tmp ?_
      refine pure_of ?_ (by repeat (first | with_reducible exact Chg.refl _ _ | with_reducible exact chg0 | with_reducible refine Chg.drewN ?_ _ | with_reducible refine Chg.drew ?_ | with_reducible refine Chg.alloc ?_ _ | with_reducible refine Chg.setCell ?_ _ _ (by first | (simp; done) | omega | (simp; omega)) | with_reducible refine Chg.setBlock ?_ _ _ (by first | (simp; done) | omega | (simp; omega)) | exact Chg.refl _ _))
      rw [HDS.out]
      rfl

set_option maxHeartbeats 2000000 in
theorem RefJoin_calls (h b : Bundle) (w : World) (g : h.Good) (h1 : h.count ≤ 1000000000000) (h2 : b.count ≤ 1000000000000) (h3 : 0 ≤ b.count) :
    Calls Try.prog 58 #[h.val, b.val] w (Pure w (h.join b).val) := by
  have hpos := g.pos
  obtain ⟨hc, ho, hh, hd⟩ := h
  obtain ⟨bc, bo, bh, bd⟩ := b
  simp only at h1 h2 h3 hpos
  have e1 : IntKind.i64.wrap (hc + bc) = hc + bc := by rw [IntKind.wrap_i64]; omega
  simp only [Bundle.val, Bundle.cells]
  go_enter Try.func58, Try.ntmps58
  cases bo <;> cases bh
  all_goals
    go_wp2_with fail
    (try simp only [Exit.inBlock, Exit.then])
    refine bodyRet1 _ rfl rfl (ResIs.row Try.underlying47 rfl (by kernel_rfl) rfl (by simp [go_sem]; exact ⟨rfl, rfl, rfl⟩)) ?_
    refine pure_of ?_ (by repeat (first | with_reducible exact Chg.refl _ _ | with_reducible exact chg0 | with_reducible refine Chg.drewN ?_ _ | with_reducible refine Chg.drew ?_ | with_reducible refine Chg.alloc ?_ _ | with_reducible refine Chg.setCell ?_ _ _ (by first | (simp; done) | omega | (simp; omega)) | with_reducible refine Chg.setBlock ?_ _ _ (by first | (simp; done) | omega | (simp; omega)) | exact Chg.refl _ _))
    simp [Bundle.join, Bundle.val, Bundle.cells]

end Go.Proofs.Ytocnhmakgbdbfaa
