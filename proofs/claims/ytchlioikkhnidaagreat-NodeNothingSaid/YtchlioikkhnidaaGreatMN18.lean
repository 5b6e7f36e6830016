/-
  The document's node, new: what is there.
-/
import Derived.Test.YtchlioikkhnidaaGreatMN12
set_option linter.unusedVariables false
set_option linter.unusedSimpArgs false
namespace Go.Proofs.YtchlioikkhnidaaGreat
open Go.RowKit Go.Sort Go.ChangeShapes Go.WideShapes Go.ChangeAt
open Go.ChangeMaps (setBlock)
set_option linter.unusedVariables false
set_option linter.unusedSimpArgs false
section
variable {w w' w'' w0 : World} {p : Nat}
set_option maxHeartbeats 4000000 in
set_option maxRecDepth 20000 in
theorem RefTListNil_calls {v2 : Value} (h : ob w p = some (.cells #[.slice none 0 0, v2] 147 (0, 0))) :
    Calls Tryz.prog 48 #[.pointer (some ⟨p, 0, none⟩)] w fun e w' => ∃ v, e = .returned v ∧ Own0 w w' 124 3 v [] ∧ Below w.heap.size w w' := by
  have c0 : w.cell? ⟨p, 0, none⟩ = some (.slice none 0 0) := cell_ob h 0
  have lp := ob_lt h
  clear h
  go_enter Tryz.func48, Tryz.ntmps48
  go_wp2_with fail
  refine wp_loop_rounds 1 ?_
  rw [rounds_succ]
  go_wp2_with fail
  go_ret
  refine ⟨_, rfl, ⟨OwnSl.made (c := #[]) (by first | exact ob_alloc_new _ _ _ (by simp) | (rw [ob_drewN]; exact ob_alloc_new _ _ _ (by simp))) RowsOk.nil rfl (by decide), fun j hj => by have e : w.heap.size = j := Option.some.inj hj; omega⟩, Chg.below (by repeat (first | with_reducible exact Chg.refl _ _ | with_reducible exact chg0 | with_reducible refine Chg.drewN ?_ _ | with_reducible refine Chg.drew ?_ | with_reducible refine Chg.alloc ?_ _ | with_reducible refine Chg.setCell ?_ _ _ (by first | (simp; done) | omega | (simp; omega)) | with_reducible refine Chg.setBlock ?_ _ _ (by first | (simp; done) | omega | (simp; omega)) | exact Chg.refl _ _))⟩
theorem new_all (x y : Int) : (CacheM.new x y).all = [] := by simp [CacheM.all, CacheM.new, Lines.new, Lines.list]
set_option maxHeartbeats 8000000 in
set_option maxRecDepth 20000 in
theorem RefPlaceNew_calls {m : Nat} {c : Config} {id : Int} (h : RefNew15 w0 w m c id) :
    Calls Tryz.prog 18 #[.pointer (some ⟨m, 0, none⟩)] w fun e w' => ∃ v1 v2, e = .returned (.agg #[v1, .bool false, .int .i64 0, .bool false, .int .i64 0, v2]) ∧ Own0 w w' 53 5 v1 (([] : List Line).map Line.cells) ∧ Own0 w w' 124 3 v2 (([] : List Active).map Active.cells) ∧ Below w.heap.size w w' := by
  obtain ⟨p1, lp1, F1, p2, p3, hm, hc, ht, hp, ha, hF, hl⟩ := h
  have HC := Lib.hid (show RefCacheAt w p1 (CacheM.new c.sets c.ways) F1 from ⟨lp1, [], hc, Toks.nil, CacheM.new_ok _ _⟩)
  have HT := Lib.hid ht
  have HM := Lib.hid hm
  have HP := Lib.hid hp
  have lm := ob_lt hm
  have lp := ob_lt hp
  clear hc ht ha hF hl hm hp
  go_enter Tryz.func18, Tryz.ntmps18
  go_upto_region 1 with fail
  obtain ⟨W, hW⟩ : ∃ W, W = (w.alloc (Obj.cells #[.slice none 0 0, .bool false, .int .i64 0, .bool false, .int .i64 0, .slice none 0 0] 50)) := ⟨_, rfl⟩
  rw [← hW]
  have bW : Below w.heap.size w W := by rw [hW]; exact Chg.below (by repeat (first | with_reducible exact Chg.refl _ _ | with_reducible exact chg0 | with_reducible refine Chg.drewN ?_ _ | with_reducible refine Chg.drew ?_ | with_reducible refine Chg.alloc ?_ _ | with_reducible refine Chg.setCell ?_ _ _ (by first | (simp; done) | omega | (simp; omega)) | with_reducible refine Chg.setBlock ?_ _ _ (by first | (simp; done) | omega | (simp; omega)) | exact Chg.refl _ _))
  have oW : ob W w.heap.size = some (.cells #[.slice none 0 0, .bool false, .int .i64 0, .bool false, .int .i64 0, .slice none 0 0] 50 (0, 0)) := by rw [hW]; simp [go_sem]
  have hsz : W.heap.size = w.heap.size + 1 := by rw [hW]; simp
  have HZ := Lib.hid hsz
  have BW := Lib.hid bW
  have OW := Lib.hid oW
  have hm := ob_step bW HM.out
  have hp := ob_step bW HP.out
  have hS : W.cell? ⟨m, 10, none⟩ = some (.pointer (some ⟨p1, 0, none⟩)) ∧ W.cell? ⟨m, 11, none⟩ = some (.pointer (some ⟨p2, 0, none⟩)) ∧ W.cell? ⟨m, 12, none⟩ = some (.pointer (some ⟨p3, 0, none⟩)) ∧ W.cell? ⟨p3, 3, none⟩ = some (.int .i64 0) ∧ W.cell? ⟨p3, 4, none⟩ = some (.bool false) ∧ W.cell? ⟨p3, 5, none⟩ = some (.int .i64 0) ∧ W.cell? ⟨p3, 6, none⟩ = some (.bool false) := ⟨cell_ob hm 10, cell_ob hm 11, cell_ob hm 12, cell_ob hp 3, cell_ob hp 4, cell_ob hp 5, cell_ob hp 6⟩
  clear hW bW oW hsz hm hp
  go_region_held3 (fun V => V.cell? ⟨m, 10, none⟩ = some (.pointer (some ⟨p1, 0, none⟩)) ∧ V.cell? ⟨m, 11, none⟩ = some (.pointer (some ⟨p2, 0, none⟩)) ∧ V.cell? ⟨m, 12, none⟩ = some (.pointer (some ⟨p3, 0, none⟩)) ∧ V.cell? ⟨p3, 3, none⟩ = some (.int .i64 0) ∧ V.cell? ⟨p3, 4, none⟩ = some (.bool false) ∧ V.cell? ⟨p3, 5, none⟩ = some (.int .i64 0) ∧ V.cell? ⟨p3, 6, none⟩ = some (.bool false)) (first | with_reducible assumption | (refine kept_7 (S := fun _ => False) ?_ (by simp) hS; (repeat (first | with_reducible exact Chg.refl _ _ | with_reducible exact chg0 | with_reducible refine Chg.drewN ?_ _ | with_reducible refine Chg.drew ?_ | with_reducible refine Chg.alloc ?_ _ | with_reducible refine Chg.setCell ?_ _ _ (by first | (simp; done) | omega | (simp; omega)) | with_reducible refine Chg.setBlock ?_ _ _ (by first | (simp; done) | omega | (simp; omega)) | exact Chg.refl _ _)); done) | (refine keptAt_7 w.heap.size ?_ (by (simp only [ne_eq]; omega)) hS; (repeat (first | with_reducible exact Chg.refl _ _ | with_reducible refine Chg.drewN ?_ _ | with_reducible refine Chg.drew ?_ | with_reducible refine Chg.alloc ?_ _ | with_reducible refine Chg.setCell ?_ _ _ (fun _ => rfl))); done) | fail) (first
    | (go_at_call 47; refine (RefAll_calls (HC.out.below (below_trans BW.out (Chg.below (by repeat (first | with_reducible exact Chg.refl _ _ | with_reducible exact chg0 | with_reducible refine Chg.drewN ?_ _ | with_reducible refine Chg.drew ?_ | with_reducible refine Chg.alloc ?_ _ | with_reducible refine Chg.setCell ?_ _ _ (by first | (simp; done) | omega | (simp; omega)) | with_reducible refine Chg.setBlock ?_ _ _ (by first | (simp; done) | omega | (simp; omega)) | exact Chg.refl _ _)))))).mono ?_; rintro e w2 ⟨u1, rfl, hu1, hl1, hb2⟩; have hS := kept_7 (S := fun _ => False) (Chg.of_below hb2) (by simp) (by first | with_reducible assumption | (refine kept_7 (S := fun _ => False) ?_ (by simp) hS; (repeat (first | with_reducible exact Chg.refl _ _ | with_reducible exact chg0 | with_reducible refine Chg.drewN ?_ _ | with_reducible refine Chg.drew ?_ | with_reducible refine Chg.alloc ?_ _ | with_reducible refine Chg.setCell ?_ _ _ (by first | (simp; done) | omega | (simp; omega)) | with_reducible refine Chg.setBlock ?_ _ _ (by first | (simp; done) | omega | (simp; omega)) | exact Chg.refl _ _)); done) | fail); have HB2 := Lib.hid (below_trans (Chg.below (w := W) (by repeat (first | with_reducible exact Chg.refl _ _ | with_reducible exact chg0 | with_reducible refine Chg.drewN ?_ _ | with_reducible refine Chg.drew ?_ | with_reducible refine Chg.alloc ?_ _ | with_reducible refine Chg.setCell ?_ _ _ (by first | (simp; done) | omega | (simp; omega)) | with_reducible refine Chg.setBlock ?_ _ _ (by first | (simp; done) | omega | (simp; omega)) | exact Chg.refl _ _))) hb2); obtain ⟨A1, n1, s1, e1⟩ := hu1.shape; subst e1; have HU1 := Lib.hid (show Own0 w w2 53 5 (.slice A1 n1 s1) ((CacheM.new c.sets c.ways).all.map Line.cells) from ⟨hu1, fun j hj => Nat.le_trans (below_trans BW.out (Chg.below (w := W) (by repeat (first | with_reducible exact Chg.refl _ _ | with_reducible exact chg0 | with_reducible refine Chg.drewN ?_ _ | with_reducible refine Chg.drew ?_ | with_reducible refine Chg.alloc ?_ _ | with_reducible refine Chg.setCell ?_ _ _ (by first | (simp; done) | omega | (simp; omega)) | with_reducible refine Chg.setBlock ?_ _ _ (by first | (simp; done) | omega | (simp; omega)) | exact Chg.refl _ _)))).size (hl1 j hj)⟩); clear hb2 hu1 hl1)
    | (go_at_call 48; refine (RefTListNil_calls (ob_step (below_trans BW.out (below_trans HB2.out (Chg.below (by repeat (first | with_reducible exact Chg.refl _ _ | with_reducible exact chg0 | with_reducible refine Chg.drewN ?_ _ | with_reducible refine Chg.drew ?_ | with_reducible refine Chg.alloc ?_ _ | with_reducible refine Chg.setCell ?_ _ _ (by first | (simp; done) | omega | (simp; omega)) | with_reducible refine Chg.setBlock ?_ _ _ (by first | (simp; done) | omega | (simp; omega)) | exact Chg.refl _ _))))) HT.out)).mono ?_; rintro e w3 ⟨u2, rfl, hu2, hb3⟩; have hS := kept_7 (S := fun _ => False) (Chg.of_below hb3) (by simp) (by first | with_reducible assumption | (refine kept_7 (S := fun _ => False) ?_ (by simp) hS; (repeat (first | with_reducible exact Chg.refl _ _ | with_reducible exact chg0 | with_reducible refine Chg.drewN ?_ _ | with_reducible refine Chg.drew ?_ | with_reducible refine Chg.alloc ?_ _ | with_reducible refine Chg.setCell ?_ _ _ (by first | (simp; done) | omega | (simp; omega)) | with_reducible refine Chg.setBlock ?_ _ _ (by first | (simp; done) | omega | (simp; omega)) | exact Chg.refl _ _)); done) | fail); have HB3 := Lib.hid (below_trans (Chg.below (w := w2) (by repeat (first | with_reducible exact Chg.refl _ _ | with_reducible exact chg0 | with_reducible refine Chg.drewN ?_ _ | with_reducible refine Chg.drew ?_ | with_reducible refine Chg.alloc ?_ _ | with_reducible refine Chg.setCell ?_ _ _ (by first | (simp; done) | omega | (simp; omega)) | with_reducible refine Chg.setBlock ?_ _ _ (by first | (simp; done) | omega | (simp; omega)) | exact Chg.refl _ _))) hb3); obtain ⟨A2, n2, s2, e2⟩ := hu2.1.shape; subst e2; have HU2 := Lib.hid (show Own0 w w3 124 3 (.slice A2 n2 s2) [] from ⟨hu2.1, fun j hj => Nat.le_trans (below_trans BW.out (below_trans HB2.out (Chg.below (w := w2) (by repeat (first | with_reducible exact Chg.refl _ _ | with_reducible exact chg0 | with_reducible refine Chg.drewN ?_ _ | with_reducible refine Chg.drew ?_ | with_reducible refine Chg.alloc ?_ _ | with_reducible refine Chg.setCell ?_ _ _ (by first | (simp; done) | omega | (simp; omega)) | with_reducible refine Chg.setBlock ?_ _ _ (by first | (simp; done) | omega | (simp; omega)) | exact Chg.refl _ _))))).size (hu2.2 j hj)⟩); have hk3 := ob_step HB3.out (ob_step HB2.out OW.out); obtain ⟨z0, z1, z2, z3, z4, z5, zf⟩ := ob_cells6 hk3; have lz3 := ob_lt hk3; have HK3 := Lib.hid hk3; clear hb3 hu2 hk3)
    | fail)
  all_goals
    go_wp2_with fail
    (try simp only [Exit.inBlock, Exit.then])
    refine bodyRet1 _ rfl rfl (ResIs.row Tryz.underlying50 rfl (by kernel_rfl) rfl (by first | (simp [go_sem, HK3.out, lz3, setAt]; done) | (simp [go_sem, HK3.out, lz3, setAt]; exact ⟨rfl, rfl, rfl⟩))) ?_
    have h1 := HU1.out.step HB3.out
    rw [new_all] at h1
    exact ⟨_, _, rfl, h1.at HK3.out (by decide) (by (repeat (first | with_reducible exact Chg.refl _ _ | with_reducible refine Chg.drewN ?_ _ | with_reducible refine Chg.drew ?_ | with_reducible refine Chg.alloc ?_ _ | with_reducible refine Chg.setCell ?_ _ _ (fun _ => rfl)))), HU2.out.at HK3.out (by decide) (by (repeat (first | with_reducible exact Chg.refl _ _ | with_reducible refine Chg.drewN ?_ _ | with_reducible refine Chg.drew ?_ | with_reducible refine Chg.alloc ?_ _ | with_reducible refine Chg.setCell ?_ _ _ (fun _ => rfl)))), below_chg (below_trans BW.out (below_trans HB2.out HB3.out)) (S := fun j => j = w.heap.size) (by (repeat (first | with_reducible exact Chg.refl _ _ | with_reducible refine Chg.drewN ?_ _ | with_reducible refine Chg.drew ?_ | with_reducible refine Chg.alloc ?_ _ | with_reducible refine Chg.setCell ?_ _ _ (fun _ => rfl)))) (fun j hj e => by omega)⟩
end
end Go.Proofs.YtchlioikkhnidaaGreat
