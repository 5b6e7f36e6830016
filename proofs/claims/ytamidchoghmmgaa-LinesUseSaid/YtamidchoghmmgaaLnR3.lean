/-
  The document's lines: Add, Victim.
-/
import Derived.Test.YtamidchoghmmgaaLnR2
namespace Go.Proofs.Ytamidchoghmmgaa
open Go.RowKit Go.Sort
open Go.ChangeMaps (setBlock)
set_option linter.unusedVariables false
set_option linter.unusedSimpArgs false

section
variable {w : World} {p : Nat} {s : Lines} {F : Nat → Prop}

set_option maxHeartbeats 1000000 in
set_option maxRecDepth 20000 in
theorem RefAdd_calls (b : Int) (h : RefAt w p s F) (hl : s.all.length ≤ 100000) :
    Calls Try.prog 11 #[.pointer (some ⟨p, 0, none⟩), .int .i64 b] w fun e w' => e = .returned (.bool (s.can b)) ∧ ∃ F', RefAt w' p (s.add b) F' ∧ Moves w w' F F' := by
  obtain ⟨v, h, hF, hFl⟩ := h
  have c1 : w.cell? ⟨p, 1, none⟩ = some (.int .i64 s.ways) := cell_ob h.at_ _
  have c2 : w.cell? ⟨p, 2, none⟩ = some v := cell_ob h.at_ _
  have f2 : w.frozen? ⟨p, 2, none⟩ = false := frozen_ob h.at_ _
  have lp := ob_lt h.at_
  have H := Lib.hid h
  have HF := Lib.hid hF
  have HFl := Lib.hid hFl
  have no : s.can b = false → ∀ w1, Chg (fun _ => False) w w1 → (Ending.returned (.bool false) = .returned (.bool (s.can b))) ∧ ∃ F', RefAt w1 p (s.add b) F' ∧ Moves w w1 F F' := fun hc w1 h1 =>
    ⟨by rw [hc], F, by rw [Lines.add, hc]; exact RefAt.chg ⟨v, H.out, HF.out, HFl.out⟩ h1 (fun _ _ h => h), Moves.none h1⟩
  have No := Lib.hid no
  have hcan : s.can b = (!(decide (b < 0) || s.has b || decide (s.ways ≤ ((s.mates b).length : Int)))) := rfl
  obtain ⟨A, cap, hv, hA1, hA2, hA3⟩ := sliceInts h.all.slice
  clear h hF hFl no hA3
  have hl' : s.all.length ≤ 1000000 := by omega
  by_cases q1 : b < 0
  · have hno : s.can b = false := by rw [hcan]; simp [q1]
    have q1' : decide (b < 0) = true := by simpa using q1
    clear hcan
    go_enter Try.func11, Try.ntmps11
    go_wp2_with fail
    go_region
    all_goals (go_wp2_with fail)
    all_goals
      go_ret
      exact No.out hno _ (by repeat (first | with_reducible exact Chg.refl _ _ | with_reducible exact chg0 | with_reducible refine Chg.drewN ?_ _ | with_reducible refine Chg.drew ?_ | with_reducible refine Chg.alloc ?_ _ | with_reducible refine Chg.setCell ?_ _ _ (by first | (simp; done) | omega | (simp; omega)) | with_reducible refine Chg.setBlock ?_ _ _ (by first | (simp; done) | omega | (simp; omega)) | exact Chg.refl _ _))
  have q1' : decide (b < 0) = false := by simpa using q1
  cases hh : s.has b with
  | true =>
    have hno : s.can b = false := by rw [hcan, hh]; simp
    clear hcan
    go_enter Try.func11, Try.ntmps11
    go_wp2_with fail
    have hhas : ∀ W, Chg (fun _ => False) w W → Calls Try.prog 19 #[.pointer (some ⟨p, 0, none⟩), .int .i64 b] W fun e w' => e = .returned (.bool true) ∧ ∃ n, w' = W.drewN n := fun W hW => by rw [← hh]; exact RefHas_in b (H.out.same hW)
    go_quiet ((go_at_call 19; refine Calls.quiet_of (hhas _ ?_); exact (by repeat (first | with_reducible exact Chg.refl _ _ | with_reducible exact chg0 | with_reducible refine Chg.drewN ?_ _ | with_reducible refine Chg.drew ?_ | with_reducible refine Chg.alloc ?_ _ | with_reducible refine Chg.setCell ?_ _ _ (by first | (simp; done) | omega | (simp; omega)) | with_reducible refine Chg.setBlock ?_ _ _ (by first | (simp; done) | omega | (simp; omega)) | exact Chg.refl _ _))))
    all_goals (go_wp2_with fail)
    all_goals
      go_ret
      exact No.out hno _ (by repeat (first | with_reducible exact Chg.refl _ _ | with_reducible exact chg0 | with_reducible refine Chg.drewN ?_ _ | with_reducible refine Chg.drew ?_ | with_reducible refine Chg.alloc ?_ _ | with_reducible refine Chg.setCell ?_ _ _ (by first | (simp; done) | omega | (simp; omega)) | with_reducible refine Chg.setBlock ?_ _ _ (by first | (simp; done) | omega | (simp; omega)) | exact Chg.refl _ _))
  | false =>
    by_cases q3 : s.ways ≤ ((s.mates b).length : Int)
    · have hno : s.can b = false := by rw [hcan]; simp [q3]
      have q3' : decide (s.ways ≤ ((s.mates b).length : Int)) = true := by simpa using q3
      clear hcan
      go_enter Try.func11, Try.ntmps11
      go_wp2_with fail
      go_region_law (first
        | (go_simp; go_at_call 19; refine (RefHas_in b (H.out.same (by repeat (first | with_reducible exact Chg.refl _ _ | with_reducible exact chg0 | with_reducible refine Chg.drewN ?_ _ | with_reducible refine Chg.drew ?_ | with_reducible refine Chg.alloc ?_ _ | with_reducible refine Chg.setCell ?_ _ _ (by first | (simp; done) | omega | (simp; omega)) | with_reducible refine Chg.setBlock ?_ _ _ (by first | (simp; done) | omega | (simp; omega)) | exact Chg.refl _ _)))).mono ?_; rintro e w1 ⟨rfl, n2, rfl⟩; rw [hh])
        | (go_simp; go_at_call 28; refine (mates_calls b (H.out.same (by repeat (first | with_reducible exact Chg.refl _ _ | with_reducible exact chg0 | with_reducible refine Chg.drewN ?_ _ | with_reducible refine Chg.drew ?_ | with_reducible refine Chg.alloc ?_ _ | with_reducible refine Chg.setCell ?_ _ _ (by first | (simp; done) | omega | (simp; omega)) | with_reducible refine Chg.setBlock ?_ _ _ (by first | (simp; done) | omega | (simp; omega)) | exact Chg.refl _ _))) (by omega)).mono ?_; rintro e w2 ⟨u2, rfl, hm2, _, hb2⟩; obtain ⟨A2, cap2, hu2⟩ := hm2.form; rw [ints_length] at hu2; subst hu2; have hw2 : Chg (fun _ => False) w w2 := Chg.of_below (below_trans (Chg.below (by repeat (first | with_reducible exact Chg.refl _ _ | with_reducible exact chg0 | with_reducible refine Chg.drewN ?_ _ | with_reducible refine Chg.drew ?_ | with_reducible refine Chg.alloc ?_ _ | with_reducible refine Chg.setCell ?_ _ _ (by first | (simp; done) | omega | (simp; omega)) | with_reducible refine Chg.setBlock ?_ _ _ (by first | (simp; done) | omega | (simp; omega)) | exact Chg.refl _ _))) hb2); have c1' : w2.cell? ⟨p, 1, none⟩ = some (.int .i64 s.ways) := hw2.cell c1 (fun h => h)))
      all_goals (go_wp2_with fail)
      all_goals
        go_ret
        exact No.out hno _ hw2
    have q3' : decide (s.ways ≤ ((s.mates b).length : Int)) = false := by simpa using q3
    have hyes : s.can b = true := by rw [hcan, hh, q1', q3']; rfl
    have Yes := Lib.hid hyes
    clear hcan hyes
    go_enter Try.func11, Try.ntmps11
    go_wp2_with fail
    go_region_law (first
      | (go_simp; go_at_call 19; refine (RefHas_in b (H.out.same (by repeat (first | with_reducible exact Chg.refl _ _ | with_reducible exact chg0 | with_reducible refine Chg.drewN ?_ _ | with_reducible refine Chg.drew ?_ | with_reducible refine Chg.alloc ?_ _ | with_reducible refine Chg.setCell ?_ _ _ (by first | (simp; done) | omega | (simp; omega)) | with_reducible refine Chg.setBlock ?_ _ _ (by first | (simp; done) | omega | (simp; omega)) | exact Chg.refl _ _)))).mono ?_; rintro e w1 ⟨rfl, n2, rfl⟩; rw [hh])
      | (go_simp; go_at_call 28; refine (mates_calls b (H.out.same (by repeat (first | with_reducible exact Chg.refl _ _ | with_reducible exact chg0 | with_reducible refine Chg.drewN ?_ _ | with_reducible refine Chg.drew ?_ | with_reducible refine Chg.alloc ?_ _ | with_reducible refine Chg.setCell ?_ _ _ (by first | (simp; done) | omega | (simp; omega)) | with_reducible refine Chg.setBlock ?_ _ _ (by first | (simp; done) | omega | (simp; omega)) | exact Chg.refl _ _))) (by omega)).mono ?_; rintro e w2 ⟨u2, rfl, hm2, _, hb2⟩; obtain ⟨A2, cap2, hu2⟩ := hm2.form; rw [ints_length] at hu2; subst hu2; have hw2 : Chg (fun _ => False) w w2 := Chg.of_below (below_trans (Chg.below (by repeat (first | with_reducible exact Chg.refl _ _ | with_reducible exact chg0 | with_reducible refine Chg.drewN ?_ _ | with_reducible refine Chg.drew ?_ | with_reducible refine Chg.alloc ?_ _ | with_reducible refine Chg.setCell ?_ _ _ (by first | (simp; done) | omega | (simp; omega)) | with_reducible refine Chg.setBlock ?_ _ _ (by first | (simp; done) | omega | (simp; omega)) | exact Chg.refl _ _))) hb2); have c1' : w2.cell? ⟨p, 1, none⟩ = some (.int .i64 s.ways) := hw2.cell c1 (fun h => h)))
    all_goals
      have tok1 : True := trivial
      have c2' : w2.cell? ⟨p, 2, none⟩ = some v := hw2.cell c2 (fun h => h)
      have f2' : w2.frozen? ⟨p, 2, none⟩ = false := by rw [hw2.frozen lp (fun h => h)]; exact f2
      have lp2 : p < w2.heap.size := Nat.lt_of_lt_of_le lp hw2.size
      have Hs2 := Lib.hid ((H.out.same hw2).all.slice)
      subst hv
    all_goals
      go_wp2_with (first
        | (at_builtin; have _t := tok1; refine wpList_append_sl (v := .slice (some ⟨w2.heap.size, 0, none⟩) 0 0) (x := .slice A s.all.length cap) (xs := []) (ys := ints s.all) rfl _ _ rfl tyInts rfl rfl (OwnSl.made (c := #[]) (e := 3) (b := w2.heap.size) (ob_alloc_at _ _) RowsOk.nil rfl (by decide)) (Hs2.out.below (Chg.below (by repeat (first | with_reducible exact Chg.refl _ _ | with_reducible exact chg0 | with_reducible refine Chg.drewN ?_ _ | with_reducible refine Chg.drew ?_ | with_reducible refine Chg.alloc ?_ _ | with_reducible refine Chg.setCell ?_ _ _ (by first | (simp; done) | omega | (simp; omega)) | with_reducible refine Chg.setBlock ?_ _ _ (by first | (simp; done) | omega | (simp; omega)) | exact Chg.refl _ _)))) (ints_ok _) (by simp; omega) ?_; intro v3 w3 ho3 hc3 hloc3; clear tok1; have hw3 : Chg (fun _ => False) w2 w3 := Chg.trans (S' := fun j => j = w2.heap.size) (by repeat (first | with_reducible exact Chg.refl _ _ | with_reducible exact chg0 | with_reducible refine Chg.drewN ?_ _ | with_reducible refine Chg.drew ?_ | with_reducible refine Chg.alloc ?_ _ | with_reducible refine Chg.setCell ?_ _ _ (by first | (simp; done) | omega | (simp; omega)) | with_reducible refine Chg.setBlock ?_ _ _ (by first | (simp; done) | omega | (simp; omega)) | exact Chg.refl _ _)) (hc3.mono (fun j _ e => (Option.some.inj e).symm)) (fun j hj e => by omega))
        | (at_builtin; refine wpList_append_sl (v := v3) (xs := ints s.all) (ys := [[.int .i64 b]]) rfl _ _ rfl tyInts rfl rfl (ho3.chg (S := fun _ => False) (by repeat (first | with_reducible exact Chg.refl _ _ | with_reducible exact chg0 | with_reducible refine Chg.drewN ?_ _ | with_reducible refine Chg.drew ?_ | with_reducible refine Chg.alloc ?_ _ | with_reducible refine Chg.setCell ?_ _ _ (by first | (simp; done) | omega | (simp; omega)) | with_reducible refine Chg.setBlock ?_ _ _ (by first | (simp; done) | omega | (simp; omega)) | exact Chg.refl _ _)) (fun _ _ h => h)) (OwnSl.made (e := 3) (ob_alloc_new _ _ _ rfl) (ints_ok [b]) rfl (by simp)).slice (ints_ok [b]) (by simp; omega) ?_; intro v4 w4 ho4 hc4 hloc4; obtain ⟨A4, n4, cap4, hv4⟩ := ho4.shape; subst hv4; have hw4 : Chg (fun _ => False) w w4 := (hw2.trans (hw3.trans (S' := fun j => v3.ownBlock = some j) (Chg.trans (S' := fun j => v3.ownBlock = some j) (by repeat (first | with_reducible exact Chg.refl _ _ | with_reducible exact chg0 | with_reducible refine Chg.drewN ?_ _ | with_reducible refine Chg.drew ?_ | with_reducible refine Chg.alloc ?_ _ | with_reducible refine Chg.setCell ?_ _ _ (by first | (simp; done) | omega | (simp; omega)) | with_reducible refine Chg.setBlock ?_ _ _ (by first | (simp; done) | omega | (simp; omega)) | exact Chg.refl _ _)) hc4 (fun _ _ h => h)) (fun j hj e => absurd (show w2.heap.size ≤ j from fresh_of hloc3 (fun k hk => Nat.le_of_eq (Option.some.inj hk)) (by simp) e) (by omega))) (fun _ _ h => h)); have c2'' : w4.cell? ⟨p, 2, none⟩ = some (.slice A s.all.length cap) := hw4.cell c2 (fun h => h); have f2'' : w4.frozen? ⟨p, 2, none⟩ = false := by rw [hw4.frozen lp (fun h => h)]; exact f2))
    all_goals
      go_ret
      have ho5 : OwnSl w4 3 1 (.slice A4 n4 cap4) (ints (s.all ++ [b])) := by rw [ints_append]; exact ho4
      refine ⟨retb Yes.out.symm, ref_put H.out HF.out HFl.out (s' := s.add b) ?_ ?_ (Lines.add_ok H.out.ok b) _ ?_ (hw4.mono fun _ _ h => h.elim) (fun j hj => .inr ?_)⟩
      · rw [Lines.add, if_pos Yes.out]
      · rw [Lines.add, if_pos Yes.out]
      · rw [Lines.add, if_pos Yes.out]; exact ho5
      · refine Nat.le_trans hw2.size (fresh_of hloc4 (fun k hk => fresh_of hloc3 (fun k hk => Nat.le_of_eq (Option.some.inj hk)) (by simp) hk) ?_ hj)
        have := hw3.size
        simp; omega
end
end Go.Proofs.Ytamidchoghmmgaa
