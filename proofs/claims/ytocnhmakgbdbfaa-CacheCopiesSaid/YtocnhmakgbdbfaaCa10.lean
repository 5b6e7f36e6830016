/-
  The program's cache: Copy.
-/
import Derived.Test.YtocnhmakgbdbfaaCa6
import Derived.Test.YtocnhmakgbdbfaaLn5
import Derived.Test.YtocnhmakgbdbfaaSh2
import Derived.BigRegion
import Derived.Deep.RegionHeld3
namespace Go.Proofs.Ytocnhmakgbdbfaa
open Go.RowKit Go.Sort Go.ChangeShapes Go.WideShapes Go.ChangeAt
open Go.ChangeMaps (setBlock)
set_option linter.unusedVariables false
set_option linter.unusedSimpArgs false

section
variable {w w' : World} {p : Nat} {c : CacheM} {F : Nat → Prop}
theorem CloneB_calls {b : Nat} {o : Obj} {f : Int → Option Value} (hb : ob w b = some o) (ho : MapObj o f) :
    Calls Try.prog 66 #[.map (some b)] w fun e w' => ∃ b', e = .returned (.map (some b')) ∧ ob w' b' = some o ∧ w.heap.size ≤ b' ∧ Below w.heap.size w w' := by
  obtain ⟨es, clock, rfl, _⟩ := ho
  have hcon := AnyW.maps_Clone layCloneB b es clock w hb
  change Calls Try.prog 66 _ _ _ at hcon
  refine hcon.mono ?_
  rintro e w' ⟨rfl, rfl⟩
  exact ⟨_, rfl, ob_alloc_at _ _, Nat.le_refl _, ((Chg.refl (fun _ => False) w).alloc _).below⟩

set_option maxHeartbeats 2000000 in
set_option maxRecDepth 20000 in
theorem CacheCopy_calls (h : CacheAt w p c F) :
    Calls Try.prog 42 #[.pointer (some ⟨p, 0, none⟩)] w fun e w' => ∃ p' F', e = .returned (.pointer (some ⟨p', 0, none⟩)) ∧ CacheAt w' p' c F' ∧ (∀ j, F' j → w.heap.size ≤ j) ∧ Below w.heap.size w w' := by
  obtain ⟨lp, tb, o, f, FL, r, ht, ok, hF, hFl⟩ := h
  have c0 : w.cell? ⟨p, 0, none⟩ = some (.pointer (some ⟨lp, 0, none⟩)) := cell_ob r.at_ 0
  have c1 : w.cell? ⟨p, 1, none⟩ = some (.map (some tb)) := cell_ob r.at_ 1
  have R := Lib.hid r
  have HT := Lib.hid ht
  have OK := Lib.hid ok
  have hS := And.intro c0 c1
  clear r ht ok hF hFl
  go_enter Try.func42, Try.ntmps42
  go_wp2_with fail
  go_region_held3 (fun W => W.cell? ⟨p, 0, none⟩ = some (.pointer (some ⟨lp, 0, none⟩)) ∧ W.cell? ⟨p, 1, none⟩ = some (.map (some tb))) (first | assumption | (exact ⟨(Chg.cell (S := fun _ => False) (by repeat (first | with_reducible exact Chg.refl _ _ | with_reducible exact chg0 | with_reducible refine Chg.drewN ?_ _ | with_reducible refine Chg.drew ?_ | with_reducible refine Chg.alloc ?_ _ | with_reducible refine Chg.setCell ?_ _ _ (by first | (simp; done) | omega | (simp; omega)) | with_reducible refine Chg.setBlock ?_ _ _ (by first | (simp; done) | omega | (simp; omega)) | exact Chg.refl _ _)) hS.1 (fun h => h)), (Chg.cell (S := fun _ => False) (by repeat (first | with_reducible exact Chg.refl _ _ | with_reducible exact chg0 | with_reducible refine Chg.drewN ?_ _ | with_reducible refine Chg.drew ?_ | with_reducible refine Chg.alloc ?_ _ | with_reducible refine Chg.setCell ?_ _ _ (by first | (simp; done) | omega | (simp; omega)) | with_reducible refine Chg.setBlock ?_ _ _ (by first | (simp; done) | omega | (simp; omega)) | exact Chg.refl _ _)) hS.2 (fun h => h))⟩) | fail) (first
    | (have hQ := HM; go_at_call 22; refine (Copy_calls ((R.out.below HM.out.2.2).lines.below (Chg.below (w := wa) (by repeat (first | with_reducible exact Chg.refl _ _ | with_reducible exact chg0 | with_reducible refine Chg.drewN ?_ _ | with_reducible refine Chg.drew ?_ | with_reducible refine Chg.alloc ?_ _ | with_reducible refine Chg.setCell ?_ _ _ (by first | (simp; done) | omega | (simp; omega)) | with_reducible refine Chg.setBlock ?_ _ _ (by first | (simp; done) | omega | (simp; omega)) | exact Chg.refl _ _))))).mono ?_; rintro e wb ⟨lp', FL', rfl, hl, hlo, hbb⟩; have hbb' := below_trans (Chg.below (w := wa) (by repeat (first | with_reducible exact Chg.refl _ _ | with_reducible exact chg0 | with_reducible refine Chg.drewN ?_ _ | with_reducible refine Chg.drew ?_ | with_reducible refine Chg.alloc ?_ _ | with_reducible refine Chg.setCell ?_ _ _ (by first | (simp; done) | omega | (simp; omega)) | with_reducible refine Chg.setBlock ?_ _ _ (by first | (simp; done) | omega | (simp; omega)) | exact Chg.refl _ _))) hbb; have HZ := Lib.hid (show LinesAt wb lp' c.lines FL' ∧ ob wb tb' = some o ∧ (∀ j, FL' j → w.heap.size ≤ j) ∧ w.heap.size ≤ tb' ∧ ¬ FL' tb' ∧ Below w.heap.size w wb from ⟨hl, ob_step hbb' HM.out.1, fun j hj => Nat.le_trans HM.out.2.2.size (hlo j hj), HM.out.2.1, fun hj => absurd (ob_lt HM.out.1) (Nat.not_lt.2 (hlo _ hj)), below_trans HM.out.2.2 hbb'⟩); have hS' := And.intro ((Chg.of_below (S := fun _ => False) hbb').cell hS.1 (fun h => h)) ((Chg.of_below (S := fun _ => False) hbb').cell hS.2 (fun h => h)); clear hS; have hS := hS')
    | (have hQ := HL; go_at_call 66; refine (CloneB_calls (o := o) (f := f) ((Chg.ob (S := fun _ => False) (w := w) ((Chg.of_below HL.out.2.2).trans (S' := fun _ => False) (by repeat (first | with_reducible exact Chg.refl _ _ | with_reducible exact chg0 | with_reducible refine Chg.drewN ?_ _ | with_reducible refine Chg.drew ?_ | with_reducible refine Chg.alloc ?_ _ | with_reducible refine Chg.setCell ?_ _ _ (by first | (simp; done) | omega | (simp; omega)) | with_reducible refine Chg.setBlock ?_ _ _ (by first | (simp; done) | omega | (simp; omega)) | exact Chg.refl _ _)) (fun _ _ h => h)) R.out.map (fun h => h))) R.out.obj).mono ?_; rintro e wb ⟨tb', rfl, hm, hlo, hbb⟩; have hbb' := below_trans (Chg.below (w := wa) (by repeat (first | with_reducible exact Chg.refl _ _ | with_reducible exact chg0 | with_reducible refine Chg.drewN ?_ _ | with_reducible refine Chg.drew ?_ | with_reducible refine Chg.alloc ?_ _ | with_reducible refine Chg.setCell ?_ _ _ (by first | (simp; done) | omega | (simp; omega)) | with_reducible refine Chg.setBlock ?_ _ _ (by first | (simp; done) | omega | (simp; omega)) | exact Chg.refl _ _))) hbb; have HZ := Lib.hid (show LinesAt wb lp' c.lines FL' ∧ ob wb tb' = some o ∧ (∀ j, FL' j → w.heap.size ≤ j) ∧ w.heap.size ≤ tb' ∧ ¬ FL' tb' ∧ Below w.heap.size w wb from ⟨HL.out.1.below hbb', hm, HL.out.2.1, Nat.le_trans HL.out.2.2.size hlo, fun hj => absurd (HL.out.1.fin hj) (Nat.not_lt.2 hlo), below_trans HL.out.2.2 hbb'⟩); have hS' := And.intro ((Chg.of_below (S := fun _ => False) hbb').cell hS.1 (fun h => h)) ((Chg.of_below (S := fun _ => False) hbb').cell hS.2 (fun h => h)); clear hS; have hS := hS')
    | (go_at_call 22; refine (Copy_calls (R.out.lines.below (Chg.below (w := w) (by repeat (first | with_reducible exact Chg.refl _ _ | with_reducible exact chg0 | with_reducible refine Chg.drewN ?_ _ | with_reducible refine Chg.drew ?_ | with_reducible refine Chg.alloc ?_ _ | with_reducible refine Chg.setCell ?_ _ _ (by first | (simp; done) | omega | (simp; omega)) | with_reducible refine Chg.setBlock ?_ _ _ (by first | (simp; done) | omega | (simp; omega)) | exact Chg.refl _ _))))).mono ?_; rintro e wa ⟨lp', FL', rfl, hl, hlo, hba⟩; have hba' := below_trans (Chg.below (w := w) (by repeat (first | with_reducible exact Chg.refl _ _ | with_reducible exact chg0 | with_reducible refine Chg.drewN ?_ _ | with_reducible refine Chg.drew ?_ | with_reducible refine Chg.alloc ?_ _ | with_reducible refine Chg.setCell ?_ _ _ (by first | (simp; done) | omega | (simp; omega)) | with_reducible refine Chg.setBlock ?_ _ _ (by first | (simp; done) | omega | (simp; omega)) | exact Chg.refl _ _))) hba; have HL := Lib.hid (show LinesAt wa lp' c.lines FL' ∧ (∀ j, FL' j → w.heap.size ≤ j) ∧ Below w.heap.size w wa from ⟨hl, hlo, hba'⟩); have hS' := And.intro ((Chg.of_below (S := fun _ => False) hba').cell hS.1 (fun h => h)) ((Chg.of_below (S := fun _ => False) hba').cell hS.2 (fun h => h)); clear hS; have hS := hS'; clear hl hlo hba)
    | (go_at_call 66; refine (CloneB_calls (o := o) (f := f) (Chg.ob (S := fun _ => False) (w := w) (by repeat (first | with_reducible exact Chg.refl _ _ | with_reducible exact chg0 | with_reducible refine Chg.drewN ?_ _ | with_reducible refine Chg.drew ?_ | with_reducible refine Chg.alloc ?_ _ | with_reducible refine Chg.setCell ?_ _ _ (by first | (simp; done) | omega | (simp; omega)) | with_reducible refine Chg.setBlock ?_ _ _ (by first | (simp; done) | omega | (simp; omega)) | exact Chg.refl _ _)) R.out.map (fun h => h)) R.out.obj).mono ?_; rintro e wa ⟨tb', rfl, hm, hlo, hba⟩; have hba' := below_trans (Chg.below (w := w) (by repeat (first | with_reducible exact Chg.refl _ _ | with_reducible exact chg0 | with_reducible refine Chg.drewN ?_ _ | with_reducible refine Chg.drew ?_ | with_reducible refine Chg.alloc ?_ _ | with_reducible refine Chg.setCell ?_ _ _ (by first | (simp; done) | omega | (simp; omega)) | with_reducible refine Chg.setBlock ?_ _ _ (by first | (simp; done) | omega | (simp; omega)) | exact Chg.refl _ _))) hba; have HM := Lib.hid (show ob wa tb' = some o ∧ w.heap.size ≤ tb' ∧ Below w.heap.size w wa from ⟨hm, hlo, hba'⟩); have hS' := And.intro ((Chg.of_below (S := fun _ => False) hba').cell hS.1 (fun h => h)) ((Chg.of_below (S := fun _ => False) hba').cell hS.2 (fun h => h)); clear hS; have hS := hS'; clear hm hlo hba)
    | fail)
  all_goals
    go_wp2_with fail
    go_ret
    obtain ⟨z1, z2, z3, z4, z5, z6⟩ := HZ.out
    have hfin : ∀ j, FL' j → j < wb.heap.size := fun j hj => z1.fin hj
    have hsz := z6.size
    refine ⟨wb.heap.size, fun j => j = wb.heap.size ∨ j = tb' ∨ FL' j, rfl, ⟨lp', tb', o, f, FL', ⟨?_, z1.below (Chg.below (by repeat (first | with_reducible exact Chg.refl _ _ | with_reducible exact chg0 | with_reducible refine Chg.drewN ?_ _ | with_reducible refine Chg.drew ?_ | with_reducible refine Chg.alloc ?_ _ | with_reducible refine Chg.setCell ?_ _ _ (by first | (simp; done) | omega | (simp; omega)) | with_reducible refine Chg.setBlock ?_ _ _ (by first | (simp; done) | omega | (simp; omega)) | exact Chg.refl _ _))), ?_, R.out.obj, fun hj => absurd (hfin _ hj) (Nat.lt_irrefl _), z5⟩, HT.out, OK.out, fun _ h => h, ?_⟩, ?_, below_trans z6 (Chg.below (by repeat (first | with_reducible exact Chg.refl _ _ | with_reducible exact chg0 | with_reducible refine Chg.drewN ?_ _ | with_reducible refine Chg.drew ?_ | with_reducible refine Chg.alloc ?_ _ | with_reducible refine Chg.setCell ?_ _ _ (by first | (simp; done) | omega | (simp; omega)) | with_reducible refine Chg.setBlock ?_ _ _ (by first | (simp; done) | omega | (simp; omega)) | exact Chg.refl _ _)))⟩
    · simp [go_sem]
    · exact Chg.ob (S := fun _ => False) (w := wb) (by repeat (first | with_reducible exact Chg.refl _ _ | with_reducible exact chg0 | with_reducible refine Chg.drewN ?_ _ | with_reducible refine Chg.drew ?_ | with_reducible refine Chg.alloc ?_ _ | with_reducible refine Chg.setCell ?_ _ _ (by first | (simp; done) | omega | (simp; omega)) | with_reducible refine Chg.setBlock ?_ _ _ (by first | (simp; done) | omega | (simp; omega)) | exact Chg.refl _ _)) z2 (fun h => h)
    · rintro j (rfl | rfl | hj)
      · simp
      · have := ob_lt z2; simp; omega
      · have := hfin j hj; simp; omega
    · rintro j (rfl | rfl | hj)
      · exact hsz
      · exact z4
      · exact z3 j hj
end
end Go.Proofs.Ytocnhmakgbdbfaa
