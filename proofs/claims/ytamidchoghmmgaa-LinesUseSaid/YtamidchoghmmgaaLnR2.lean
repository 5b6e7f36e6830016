/-
  The document's lines: Remove, Add, Use, Victim.
-/
import Derived.Test.YtamidchoghmmgaaLnR
namespace Go.Proofs.Ytamidchoghmmgaa
open Go.RowKit Go.Sort
open Go.ChangeMaps (setBlock)
set_option linter.unusedVariables false
set_option linter.unusedSimpArgs false

theorem ref_put {w w3 : World} {p : Nat} {v : Value} {s s' : Lines} {F : Nat → Prop} (h : RefIn w p v s) (hF : ∀ j, j = p ∨ v.ownBlock = some j → F j) (hFl : ∀ j, F j → j < w.heap.size) (h1 : s'.sets = s.sets) (h2 : s'.ways = s.ways) (h4 : s'.Ok) (v3 : Value)
    (ho : OwnSl w3 3 1 v3 (ints s'.all)) (hc : Chg (fun j => v.ownBlock = some j) w w3) (hloc : ∀ j, v3.ownBlock = some j → v.ownBlock = some j ∨ w.heap.size ≤ j) :
    ∃ F', RefAt (w3.setCell ⟨p, 2, none⟩ v3) p s' F' ∧ Moves w (w3.setCell ⟨p, 2, none⟩ v3) F F' := by
  have lp := ob_lt h.at_
  have hp3 : ob w3 p = some (.cells #[.int .i64 s.sets, .int .i64 s.ways, v] 44 (0, 0)) := hc.ob h.at_ fun e => h.ne p e rfl
  have hc2 : Chg (fun j => j = p) w3 (w3.setCell ⟨p, 2, none⟩ v3) := (Chg.refl _ _).setCell _ _ (fun _ => rfl)
  have hs2 := hc2.size
  have hsz := hc.size
  have h3p : ∀ j, v3.ownBlock = some j → j ≠ p := by
    rintro j hj rfl
    rcases hloc j hj with e | e
    · exact h.ne j e rfl
    · omega
  refine ⟨fun j => F j ∨ (w.heap.size ≤ j ∧ j < w3.heap.size), ⟨v3, ⟨?_, ho.chg hc2 h3p, h4⟩, ?_, ?_⟩, ⟨?_, fun j hj => hj.imp id And.left⟩⟩
  · rw [ob_setCell_same, hp3, h1, h2]; rfl
  · rintro j (rfl | hj)
    · exact .inl (hF _ (.inl rfl))
    · rcases hloc j hj with e | e
      · exact .inl (hF _ (.inr e))
      · exact .inr ⟨e, ho.lt hj⟩
  · rintro j (hj | hj)
    · have := hFl j hj; omega
    · omega
  · exact (hc.mono (S' := F) fun j _ e => hF j (.inr e)).trans hc2 fun j _ e => hF j (.inl e)

section
variable {w : World} {p : Nat} {s : Lines} {F : Nat → Prop}

set_option maxHeartbeats 1000000 in
set_option maxRecDepth 20000 in
theorem RefRemove_calls (b : Int) (h : RefAt w p s F) (hl : s.all.length ≤ 100000) :
    Calls Try.prog 15 #[.pointer (some ⟨p, 0, none⟩), .int .i64 b] w fun e w' => e = .returned (.bool (s.has b)) ∧ ∃ F', RefAt w' p (s.rem b) F' ∧ Moves w w' F F' := by
  obtain ⟨v, h, hF, hFl⟩ := h
  have c2 : w.cell? ⟨p, 2, none⟩ = some v := cell_ob h.at_ _
  have f2 : w.frozen? ⟨p, 2, none⟩ = false := frozen_ob h.at_ _
  have lp := ob_lt h.at_
  have H := Lib.hid h
  have HF := Lib.hid hF
  have HFl := Lib.hid hFl
  have hpos := idxOf_at b s.all
  have Hs := Lib.hid h.all.slice
  obtain ⟨A, cap, hv, hA1, hA2, hA3⟩ := sliceInts h.all.slice
  have HA := Lib.hid hA3
  clear h hF hFl hA3
  cases hh : s.has b with
  | false =>
    have hn : ¬ b ∈ s.all := fun hm => by rw [(s.has_iff b).2 hm] at hh; cases hh
    have hpo : posOf s.all b = -1 := by unfold posOf; rw [hpos, if_neg hn]
    rw [s.rem_none b hh]
    clear hpos hn
    go_enter Try.func15, Try.ntmps15
    go_wp2_with (go_at_call 31; refine (find_calls b H.out).mono ?_; rintro e w1 ⟨rfl, n1, rfl⟩; rw [hpo])
    go_ret
    exact ⟨rfl, F, RefAt.chg (S := fun _ => False) ⟨v, H.out, HF.out, HFl.out⟩ (by repeat (first | with_reducible exact Chg.refl _ _ | with_reducible exact chg0 | with_reducible refine Chg.drewN ?_ _ | with_reducible refine Chg.drew ?_ | with_reducible refine Chg.alloc ?_ _ | with_reducible refine Chg.setCell ?_ _ _ (by first | (simp; done) | omega | (simp; omega)) | with_reducible refine Chg.setBlock ?_ _ _ (by first | (simp; done) | omega | (simp; omega)) | exact Chg.refl _ _)) (fun _ _ h => h), Moves.none (by repeat (first | with_reducible exact Chg.refl _ _ | with_reducible exact chg0 | with_reducible refine Chg.drewN ?_ _ | with_reducible refine Chg.drew ?_ | with_reducible refine Chg.alloc ?_ _ | with_reducible refine Chg.setCell ?_ _ _ (by first | (simp; done) | omega | (simp; omega)) | with_reducible refine Chg.setBlock ?_ _ _ (by first | (simp; done) | omega | (simp; omega)) | exact Chg.refl _ _))⟩
  | true =>
    have hy : b ∈ s.all := (s.has_iff b).1 hh
    have hi := List.idxOf_lt_length_of_mem hy
    obtain ⟨i, ei⟩ : ∃ i, i = s.all.idxOf b := ⟨_, rfl⟩
    have hpo : posOf s.all b = (i : Int) := by unfold posOf; rw [hpos, if_pos hy, ei]
    have her : s.all.eraseIdx i = s.all.erase b := by rw [ei]; exact eraseIdx_at b _ hy
    rw [← ei] at hi
    clear hpos ei
    have hil : (i : Int) < (s.all.length : Int) := by omega
    have Her := Lib.hid her
    clear her
    go_enter Try.func15, Try.ntmps15
    go_wp2_with (go_at_call 31; refine (find_calls b H.out).mono ?_; rintro e w1 ⟨rfl, n1, rfl⟩; rw [hpo])
    have hic : i ≤ cap := by omega
    have hi1 : i + 1 ≤ cap := by omega
    have hwr : IntKind.i64.wrap ((i : Int) + 1) = (i : Int) + 1 := by rw [IntKind.wrap_i64]; omega
    have h0i : (0 : Int) ≤ (i : Int) + 1 := by omega
    have hti : ((i : Int) + 1).toNat = i + 1 := by omega
    have hil2 : (i : Int) + 1 ≤ (s.all.length : Int) := by omega
    have hil3 : i + 1 ≤ s.all.length := by omega
    have hTo : ∀ W, Chg (fun _ => False) w W → SliceIs W 1 (.slice A i cap) (ints (s.all.take i)) := fun W hW => ints_to (by rw [← hv]; exact Hs.out.below hW.below) i (by omega)
    have hFrom : ∀ W, Chg (fun _ => False) w W → SliceIs W 1 (.slice (if cap = i + 1 then A else A.map (fun x => x.add (i + 1))) (s.all.length - (i + 1)) (cap - (i + 1))) (ints (s.all.drop (i + 1))) := fun W hW => ints_from (by rw [← hv]; exact Hs.out.below hW.below) (i + 1) hil3 (fun hlt b off e => by rw [if_neg (by omega), e]; rfl)
    have HTo := Lib.hid hTo
    have HFrom := Lib.hid hFrom
    clear hTo hFrom
    go_region_law (first
      | (refine step_append_sl (v := .slice (some ⟨w.heap.size, 0, none⟩) 0 0) (xs := []) (ys := ints (s.all.take i)) rfl _ _ rfl tyInts rfl rfl (OwnSl.made (c := #[]) (e := 3) (b := w.heap.size) (by rw [ob_drewN]; exact ob_alloc_at _ _) RowsOk.nil rfl (by decide)) (HTo.out _ (by repeat (first | with_reducible exact Chg.refl _ _ | with_reducible exact chg0 | with_reducible refine Chg.drewN ?_ _ | with_reducible refine Chg.drew ?_ | with_reducible refine Chg.alloc ?_ _ | with_reducible refine Chg.setCell ?_ _ _ (by first | (simp; done) | omega | (simp; omega)) | with_reducible refine Chg.setBlock ?_ _ _ (by first | (simp; done) | omega | (simp; omega)) | exact Chg.refl _ _))) (ints_ok _) (by simp; omega) ?_; intro v2 w2 ho2 hc2 hloc2; have hw2 : Chg (fun _ => False) w w2 := Chg.trans (S' := fun j => j = w.heap.size) (by repeat (first | with_reducible exact Chg.refl _ _ | with_reducible exact chg0 | with_reducible refine Chg.drewN ?_ _ | with_reducible refine Chg.drew ?_ | with_reducible refine Chg.alloc ?_ _ | with_reducible refine Chg.setCell ?_ _ _ (by first | (simp; done) | omega | (simp; omega)) | with_reducible refine Chg.setBlock ?_ _ _ (by first | (simp; done) | omega | (simp; omega)) | exact Chg.refl _ _)) (hc2.mono (fun j _ e => (Option.some.inj e).symm)) (fun j hj e => by omega); have c2' : w2.cell? ⟨p, 2, none⟩ = some (.slice A s.all.length cap) := hw2.cell (by rw [← hv]; exact c2) (fun h => h))
      | (refine step_append_sl (v := v2) (xs := ints (s.all.take i)) (ys := ints (s.all.drop (i + 1))) rfl _ _ rfl tyInts rfl rfl ho2 (HFrom.out _ hw2) (ints_ok _) (by simp; omega) ?_; intro v3 w3 ho3 hc3 hloc3; obtain ⟨A3, n3, cap3, hv3⟩ := ho3.shape; subst hv3; have hw3 : Chg (fun _ => False) w w3 := hw2.trans hc3 (fun j hj e => absurd (show w.heap.size ≤ j from fresh_of hloc2 (fun k hk => Nat.le_of_eq (Option.some.inj hk)) (by simp) e) (by omega)); have c2'' : w3.cell? ⟨p, 2, none⟩ = some (.slice A s.all.length cap) := hw3.cell (by rw [← hv]; exact c2) (fun h => h); have f2'' : w3.frozen? ⟨p, 2, none⟩ = false := by rw [hw3.frozen lp (fun h => h)]; exact f2))
    all_goals (go_wp2_with fail)
    all_goals
      go_ret
      rw [← ints_append, ← List.eraseIdx_eq_take_drop_succ, Her.out] at ho3
      exact ⟨rfl, ref_put H.out HF.out HFl.out (s' := s.rem b) rfl rfl (Lines.rem_ok H.out.ok b) _ ho3 (hw3.mono fun _ _ h => h.elim) (fun j hj => .inr (fresh_of hloc3 (fun k hk => fresh_of hloc2 (fun k hk => Nat.le_of_eq (Option.some.inj hk)) (by simp) hk) hw2.size hj))⟩

/-- With what s.all holds behind it: b. -/
theorem snoc_all (s : Lines) (b : Int) : ({ s with all := s.all ++ [b] } : Lines).all = s.all ++ [b] := rfl

theorem RefUse_calls (b : Int) (h : RefAt w p s F) (hl : s.all.length ≤ 100000) :
    Calls Try.prog 13 #[.pointer (some ⟨p, 0, none⟩), .int .i64 b] w fun e w' => e = .returned (.bool (s.has b)) ∧ ∃ F', RefAt w' p (s.use b) F' ∧ Moves w w' F F' := by
  have hu : s.use b = if s.has b then { s with all := s.all.erase b ++ [b] } else s := rfl
  have huo := Lib.hid (Lines.use_ok h.ok b)
  have H := Lib.hid h
  clear h
  cases hh : s.has b with
  | false =>
    rw [hh, if_neg (by decide)] at hu
    have hr := s.rem_none b hh
    go_enter Try.func13, Try.ntmps13
    go_wp2_with (go_at_call 15; refine (RefRemove_calls b H.out hl).mono ?_; rintro e w1 ⟨rfl, F1, h1, m1⟩; rw [hh])
    go_ret
    exact ⟨rfl, F1, by rw [hu, ← hr]; exact h1, m1⟩
  | true =>
    rw [hh, if_pos rfl] at hu
    rw [hu] at huo ⊢
    go_enter Try.func13, Try.ntmps13
    go_wp2_with fail
    refine (RefRemove_calls b H.out hl).mono ?_
    rintro e w1 ⟨rfl, F1, h1, m1⟩
    rw [hh]
    obtain ⟨v1, h1, hF1, hFl1⟩ := h1
    have c2 : w1.cell? ⟨p, 2, none⟩ = some v1 := cell_ob h1.at_ _
    have f2 : w1.frozen? ⟨p, 2, none⟩ = false := frozen_ob h1.at_ _
    have lp := ob_lt h1.at_
    have hle : (s.all.erase b).length ≤ 100000 := Nat.le_trans ((s.all.erase_sublist (a := b)).length_le) hl
    have H1 := Lib.hid h1
    have HF1 := Lib.hid hF1
    have HFl1 := Lib.hid hFl1
    clear h1 hF1 hFl1 hu
    have hne := H1.out.ne
    go_wp2_with (at_builtin; refine wpList_append_sl (v := v1) (xs := ints (s.all.erase b)) (ys := [[.int .i64 b]]) rfl _ _ rfl tyInts rfl rfl (H1.out.all.chg (S := fun _ => False) (by repeat (first | with_reducible exact Chg.refl _ _ | with_reducible exact chg0 | with_reducible refine Chg.drewN ?_ _ | with_reducible refine Chg.drew ?_ | with_reducible refine Chg.alloc ?_ _ | with_reducible refine Chg.setCell ?_ _ _ (by first | (simp; done) | omega | (simp; omega)) | with_reducible refine Chg.setBlock ?_ _ _ (by first | (simp; done) | omega | (simp; omega)) | exact Chg.refl _ _)) (fun _ _ h => h)) (OwnSl.made (e := 3) (ob_alloc_new _ _ _ rfl) (ints_ok [b]) rfl (by simp)).slice (ints_ok [b]) (by simp; omega) ?_; intro v3 w3 ho3 hc3 hloc3; obtain ⟨A3, n3, cap3, hv3⟩ := ho3.shape; subst hv3; have hw3 : Chg (fun j => v1.ownBlock = some j) w1 w3 := Chg.trans (S' := fun j => v1.ownBlock = some j) (by repeat (first | with_reducible exact Chg.refl _ _ | with_reducible exact chg0 | with_reducible refine Chg.drewN ?_ _ | with_reducible refine Chg.drew ?_ | with_reducible refine Chg.alloc ?_ _ | with_reducible refine Chg.setCell ?_ _ _ (by first | (simp; done) | omega | (simp; omega)) | with_reducible refine Chg.setBlock ?_ _ _ (by first | (simp; done) | omega | (simp; omega)) | exact Chg.refl _ _)) hc3 (fun _ _ h => h); have c2'' : w3.cell? ⟨p, 2, none⟩ = some v1 := hw3.cell c2 (fun e => hne p e rfl); have f2'' : w3.frozen? ⟨p, 2, none⟩ = false := by rw [hw3.frozen lp (fun e => hne p e rfl)]; exact f2)
    all_goals
      go_ret
      have ho5 : OwnSl w3 3 1 (.slice A3 n3 cap3) (ints (s.all.erase b ++ [b])) := by rw [ints_append]; exact ho3
      obtain ⟨F2, h2, m2⟩ := ref_put H1.out HF1.out HFl1.out (s' := { s with all := s.all.erase b ++ [b] }) rfl rfl huo.out _ ho5 hw3 (fun j hj => by
        rcases hloc3 with h | h
        · rw [h] at hj; exact .inl hj
        · rw [h] at hj; injection hj with hj; right; rw [← hj]; simp)
      exact ⟨rfl, F2, h2, m1.trans m2⟩
end
end Go.Proofs.Ytamidchoghmmgaa
