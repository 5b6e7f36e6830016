/-
  The program's lines: Add, Remove, Use, Victim.
-/
import Derived.Test.YtamidchoghmmgaaLn
namespace Go.Proofs.Ytamidchoghmmgaa
open Go.RowKit Go.Sort
open Go.ChangeMaps (setBlock)
set_option linter.unusedVariables false

/-- What a call may turn: these blocks, which become those. -/
structure Moves (w w' : World) (F F' : Nat → Prop) : Prop where
  chg : Chg F w w'
  fresh : ∀ j, F' j → F j ∨ w.heap.size ≤ j
theorem Moves.none {w w' : World} {F : Nat → Prop} (h : Chg (fun _ => False) w w') : Moves w w' F F := ⟨h.mono fun _ _ h => h.elim, fun _ h => .inl h⟩
theorem Moves.trans {w w1 w2 : World} {F F1 F2 : Nat → Prop} (h : Moves w w1 F F1) (h' : Moves w1 w2 F1 F2) : Moves w w2 F F2 :=
  ⟨h.chg.trans h'.chg fun k hk hf => (h.fresh k hf).elim id fun hh => absurd hk (Nat.not_lt.2 hh), fun j hj => by
    rcases h'.fresh j hj with h1 | h1
    · exact h.fresh j h1
    · exact .inr (Nat.le_trans h.chg.size h1)⟩

/-- Behind a row's change in its place and the map's. -/
theorem lines_put {w w2 : World} {p mb : Nat} {o o2 : Obj} {f : Int → Option Value} {s s' : Lines} {F : Nat → Prop} (h : LinesIn w p mb o f s) (hF : ∀ j, lnFp p mb f j → F j) (hFl : ∀ j, F j → j < w.heap.size) (k : Int) (v : Value)
    (h1 : s'.sets = s.sets) (h2 : s'.ways = s.ways) (h3 : ∀ q, q ≠ k → s'.row q = s.row q) (h4 : s'.Ok) (hv : OwnSl w2 3 1 v (ints (s'.row k))) (hc : Chg (fun j => (rowV f k).ownBlock = some j) w w2)
    (hloc : v.ownBlock = (rowV f k).ownBlock ∨ ∀ j, v.ownBlock = some j → w.heap.size ≤ j) (ho : MapObj o2 (upd f k v)) :
    ∃ F', LinesAt (setBlock w2 mb o2) p s' F' ∧ Moves w (setBlock w2 mb o2) F F' := by
  have hne := h.ne
  have lp := ob_lt h.at_
  have lm := ob_lt h.map
  have hsz := hc.size
  have key : ∀ j, (rowV f k).ownBlock = some j → ∃ u, f k = some u ∧ u.ownBlock = some j := by
    intro j hj
    unfold rowV at hj
    cases hk : f k with
    | none => rw [hk] at hj; simp [Value.ownBlock] at hj
    | some u => rw [hk] at hj; exact ⟨u, rfl, hj⟩
  have np : ¬ (rowV f k).ownBlock = some p := fun e => by
    obtain ⟨u, e1, e2⟩ := key p e
    exact (hne.2 k u p e1 e2).1 rfl
  have nm : ¬ (rowV f k).ownBlock = some mb := fun e => by
    obtain ⟨u, e1, e2⟩ := key mb e
    exact (hne.2 k u mb e1 e2).2 rfl
  have hm2 : ob w2 mb = some o := hc.ob h.map nm
  have hc2 : Chg (fun j => j = mb) w2 (setBlock w2 mb o2) := (Chg.refl _ _).setBlock _ _ (fun _ => rfl)
  have hin : LinesIn (setBlock w2 mb o2) p mb o2 (upd f k v) s' := by
    refine h.upd k v h1 h2 h3 h4 (hv.chg hc2 ?_) ?_ (ob_setBlock_lt _ _ _ (by omega)) ho ?_ hloc
    · rintro j hj rfl
      obtain ⟨c, hcj⟩ := hv.typed hj
      obtain ⟨_, _, e, _⟩ := h.obj
      rw [hm2, e] at hcj; cases hcj
    · rw [ob_setBlock_ne _ _ _ _ hne.1]
      exact hc.block p lp np
    · intro q u j hq hu hj
      rw [ob_setBlock_ne _ _ _ _ (hne.2 q u j hu hj).2]
      refine hc.block j ((h.rows q u hu).lt hj) fun e => ?_
      obtain ⟨u', e1, e2⟩ := key j e
      exact hq (h.apart q k u u' j hu e1 hj e2)
  have hc0 : Chg F w w2 := hc.mono fun j _ hj => by
    obtain ⟨u, e1, e2⟩ := key j hj
    exact hF _ (.inr (.inr ⟨k, u, e1, e2⟩))
  have hall : Chg F w (setBlock w2 mb o2) := hc0.trans hc2 fun j _ e => by rw [e]; exact hF _ (.inr (.inl rfl))
  refine ⟨fun j => F j ∨ (w.heap.size ≤ j ∧ j < w2.heap.size), ⟨mb, o2, _, hin, ?_, ?_⟩, ⟨hall, fun j hj => hj.imp id And.left⟩⟩
  · rintro j (rfl | rfl | ⟨q, u, hq, hj⟩)
    · exact .inl (hF _ (.inl rfl))
    · exact .inl (hF _ (.inr (.inl rfl)))
    · have hlt : j < w2.heap.size := by
        have := (hin.rows q u hq).lt hj
        rw [size_setBlock] at this; exact this
      unfold Ytamidchoghmmgaa.upd at hq
      split at hq
      · cases hq
        rcases hloc with hl | hl
        · rw [hl] at hj
          obtain ⟨u', e1, e2⟩ := key j hj
          exact .inl (hF _ (.inr (.inr ⟨k, u', e1, e2⟩)))
        · exact .inr ⟨hl j hj, hlt⟩
      · exact .inl (hF _ (.inr (.inr ⟨q, u, hq, hj⟩)))
  · rintro j (hj | hj)
    · have := hFl j hj
      rw [size_setBlock]; omega
    · rw [size_setBlock]; exact hj.2

section
variable {w : World} {p : Nat} {s : Lines} {F : Nat → Prop}

set_option maxHeartbeats 1000000 in
theorem Add_calls (b : Int) (h : LinesAt w p s F) :
    Calls Try.prog 10 #[.pointer (some ⟨p, 0, none⟩), .int .i64 b] w fun e w' => e = .returned (.bool (s.can b)) ∧ ∃ F', LinesAt w' p (s.add b) F' ∧ Moves w w' F F' := by
  obtain ⟨mb, o, f, h, hF, hFl⟩ := h
  have c1 : w.cell? ⟨p, 1, none⟩ = some (.int .i64 s.ways) := cell_ob h.at_ _
  have c2 : w.cell? ⟨p, 2, none⟩ = some (.map (some mb)) := cell_ob h.at_ _
  have lp := ob_lt h.at_
  have H := Lib.hid h
  have HF := Lib.hid hF
  have HFl := Lib.hid hFl
  have no : s.can b = false → ∀ w1, Chg (fun _ => False) w w1 → (Ending.returned (.bool false) = .returned (.bool (s.can b))) ∧ ∃ F', LinesAt w1 p (s.add b) F' ∧ Moves w w1 F F' := fun hc w1 h1 =>
    ⟨by rw [hc], F, by rw [Lines.add, hc]; exact LinesAt.chg ⟨mb, o, f, H.out, HF.out, HFl.out⟩ h1 (fun _ _ h => h), Moves.none h1⟩
  have No := Lib.hid no
  have hcan : s.can b = (!(decide (b < 0) || s.has b || decide (s.ways ≤ ((s.mates b).length : Int)))) := rfl
  obtain ⟨A, cap, hA, hA1, hA2, _⟩ := sliceInts (H.out.row (b % s.sets)).slice
  clear h hF hFl no
  by_cases q1 : b < 0
  · have hno : s.can b = false := by rw [hcan]; simp [q1]
    clear hcan
    go_enter Try.func10, Try.ntmps10
    go_wp2_with (go_at_call 26; refine (row_calls b H.out).mono ?_; rintro e w1 ⟨rfl, n1, rfl⟩)
    go_ret
    exact No.out hno _ (by repeat (first | with_reducible exact Chg.refl _ _ | with_reducible exact chg0 | with_reducible refine Chg.drewN ?_ _ | with_reducible refine Chg.drew ?_ | with_reducible refine Chg.alloc ?_ _ | with_reducible refine Chg.setCell ?_ _ _ (by first | (simp; done) | omega | (simp; omega)) | with_reducible refine Chg.setBlock ?_ _ _ (by first | (simp; done) | omega | (simp; omega)) | exact Chg.refl _ _))
  have q1' : decide (b < 0) = false := by simpa using q1
  cases hh : s.has b with
  | true =>
    have hno : s.can b = false := by rw [hcan, hh]; simp
    clear hcan
    go_enter Try.func10, Try.ntmps10
    go_wp2_with (first
      | (go_at_call 26; refine (row_calls b H.out).mono ?_; rintro e w1 ⟨rfl, n1, rfl⟩)
      | (go_at_call 18; refine (Has_in b (H.out.chg (S := fun _ => False) (by repeat (first | with_reducible exact Chg.refl _ _ | with_reducible exact chg0 | with_reducible refine Chg.drewN ?_ _ | with_reducible refine Chg.drew ?_ | with_reducible refine Chg.alloc ?_ _ | with_reducible refine Chg.setCell ?_ _ _ (by first | (simp; done) | omega | (simp; omega)) | with_reducible refine Chg.setBlock ?_ _ _ (by first | (simp; done) | omega | (simp; omega)) | exact Chg.refl _ _)) (fun _ _ h => h))).mono ?_; rintro e w1 ⟨rfl, n2, rfl⟩; rw [hh]))
    go_ret
    exact No.out hno _ (by repeat (first | with_reducible exact Chg.refl _ _ | with_reducible exact chg0 | with_reducible refine Chg.drewN ?_ _ | with_reducible refine Chg.drew ?_ | with_reducible refine Chg.alloc ?_ _ | with_reducible refine Chg.setCell ?_ _ _ (by first | (simp; done) | omega | (simp; omega)) | with_reducible refine Chg.setBlock ?_ _ _ (by first | (simp; done) | omega | (simp; omega)) | exact Chg.refl _ _))
  | false =>
    have hrl : (s.mates b).length = (s.row (b % s.sets)).length := rfl
    by_cases q3 : s.ways ≤ ((s.row (b % s.sets)).length : Int)
    · have hno : s.can b = false := by rw [hcan, hrl]; simp [q3]
      clear hcan
      go_enter Try.func10, Try.ntmps10
      go_wp2_with (first
        | (go_at_call 26; refine (row_calls b H.out).mono ?_; rintro e w1 ⟨rfl, n1, rfl⟩)
        | (go_at_call 18; refine (Has_in b (H.out.chg (S := fun _ => False) (by repeat (first | with_reducible exact Chg.refl _ _ | with_reducible exact chg0 | with_reducible refine Chg.drewN ?_ _ | with_reducible refine Chg.drew ?_ | with_reducible refine Chg.alloc ?_ _ | with_reducible refine Chg.setCell ?_ _ _ (by first | (simp; done) | omega | (simp; omega)) | with_reducible refine Chg.setBlock ?_ _ _ (by first | (simp; done) | omega | (simp; omega)) | exact Chg.refl _ _)) (fun _ _ h => h))).mono ?_; rintro e w1 ⟨rfl, n2, rfl⟩; rw [hh]))
      go_ret
      exact No.out hno _ (by repeat (first | with_reducible exact Chg.refl _ _ | with_reducible exact chg0 | with_reducible refine Chg.drewN ?_ _ | with_reducible refine Chg.drew ?_ | with_reducible refine Chg.alloc ?_ _ | with_reducible refine Chg.setCell ?_ _ _ (by first | (simp; done) | omega | (simp; omega)) | with_reducible refine Chg.setBlock ?_ _ _ (by first | (simp; done) | omega | (simp; omega)) | exact Chg.refl _ _))
    have q3' : decide (s.ways ≤ ((s.row (b % s.sets)).length : Int)) = false := by simpa using q3
    have hyes : s.can b = true := by rw [hcan, hh, hrl, q1', q3']; rfl
    have Yes := Lib.hid hyes
    clear hcan hyes
    go_enter Try.func10, Try.ntmps10
    go_wp2_with (first
      | (go_at_call 26; refine (row_calls b H.out).mono ?_; rintro e w1 ⟨rfl, n1, rfl⟩)
      | (go_at_call 18; refine (Has_in b (H.out.chg (S := fun _ => False) (by repeat (first | with_reducible exact Chg.refl _ _ | with_reducible exact chg0 | with_reducible refine Chg.drewN ?_ _ | with_reducible refine Chg.drew ?_ | with_reducible refine Chg.alloc ?_ _ | with_reducible refine Chg.setCell ?_ _ _ (by first | (simp; done) | omega | (simp; omega)) | with_reducible refine Chg.setBlock ?_ _ _ (by first | (simp; done) | omega | (simp; omega)) | exact Chg.refl _ _)) (fun _ _ h => h))).mono ?_; rintro e w1 ⟨rfl, n2, rfl⟩; rw [hh]))
    rw [← hA]
    clear hh q1' q3' hA1 hA hrl
    have hne := H.out.ne
    have np : (rowV f (b % s.sets)).ownBlock ≠ some p := fun e => by
      unfold rowV at e
      cases hk : f (b % s.sets) with
      | none => rw [hk] at e; simp [Value.ownBlock] at e
      | some u => rw [hk] at e; exact (hne.2 _ _ _ hk e).1 rfl
    have nm : (rowV f (b % s.sets)).ownBlock ≠ some mb := fun e => by
      unfold rowV at e
      cases hk : f (b % s.sets) with
      | none => rw [hk] at e; simp [Value.ownBlock] at e
      | some u => rw [hk] at e; exact (hne.2 _ _ _ hk e).2 rfl
    have s1 := H.out.ok.s1
    have s2 := H.out.ok.s2
    have c0 : w.cell? ⟨p, 0, none⟩ = some (.int .i64 s.sets) := cell_ob H.out.at_ _
    have hm := H.out.map
    have lm := ob_lt hm
    have w2' := H.out.ok.w2
    have rl : ((s.row (b % s.sets)).length : Int) ≤ s.ways := H.out.ok.room _
    obtain ⟨g, hg⟩ := Classical.axiomOfChoice (fun v : Value => H.out.obj.update tyIR (b % s.sets) v mb)
    have Hg := Lib.hid (fun v => (hg v).1)
    have hmu : ∀ (v : Value) (W : World), ob W mb = some o → (Instr.mapUpdate 40 (.map (some mb)) (.int .i64 (b % s.sets)) v).run Try.prog W = .ok () (setBlock W mb (g v)) := fun v => (hg v).2
    clear hg
    go_region_law (first
      | (go_simp; go_at_call 27; refine (setc_calls b s.sets (by first | assumption | simp [go_sem, c0, lp]) s1 s2).mono ?_; rintro e w1 ⟨rfl, rfl⟩)
      | (refine step_append_sl (xs := ints (s.row (b % s.sets))) (ys := [[.int .i64 b]]) rfl _ _ rfl tyInts rfl rfl ((H.out.row (b % s.sets)).chg (S := fun _ => False) (by repeat (first | with_reducible exact Chg.refl _ _ | with_reducible exact chg0 | with_reducible refine Chg.drewN ?_ _ | with_reducible refine Chg.drew ?_ | with_reducible refine Chg.alloc ?_ _ | with_reducible refine Chg.setCell ?_ _ _ (by first | (simp; done) | omega | (simp; omega)) | with_reducible refine Chg.setBlock ?_ _ _ (by first | (simp; done) | omega | (simp; omega)) | exact Chg.refl _ _)) (fun _ _ h => h)) (OwnSl.made (e := 3) (ob_alloc_new _ _ _ rfl) (ints_ok [b]) rfl (by simp)).slice (ints_ok [b]) (by simp; omega) ?_; intro v2 w2 ho hc hloc; have hsz := hc.size; have c0' : w2.cell? ⟨p, 0, none⟩ = some (.int .i64 s.sets) := (by rw [World.cell?_of_block (hc.block p (by simp [go_sem]; omega) np)]; simp [go_sem, c0, lp]); have c2' : w2.cell? ⟨p, 2, none⟩ = some (.map (some mb)) := (by rw [World.cell?_of_block (hc.block p (by simp [go_sem]; omega) np)]; simp [go_sem, c2, lp]); have hm' : ob w2 mb = some o := hc.ob (by simp [go_sem, hm, lm]) nm))
    all_goals
      go_wp2_with fail
      go_ret
      have hch : Chg (fun j => (rowV f (b % s.sets)).ownBlock = some j) w w2 := Chg.trans (S' := fun j => (rowV f (b % s.sets)).ownBlock = some j) (by repeat (first | with_reducible exact Chg.refl _ _ | with_reducible exact chg0 | with_reducible refine Chg.drewN ?_ _ | with_reducible refine Chg.drew ?_ | with_reducible refine Chg.alloc ?_ _ | with_reducible refine Chg.setCell ?_ _ _ (by first | (simp; done) | omega | (simp; omega)) | with_reducible refine Chg.setBlock ?_ _ _ (by first | (simp; done) | omega | (simp; omega)) | exact Chg.refl _ _)) hc (fun _ _ h => h)
      refine ⟨retb Yes.out.symm, lines_put H.out HF.out HFl.out (b % s.sets) v2 ?_ ?_ ?_ (Lines.add_ok H.out.ok b) ?_ hch ?_ (Hg.out v2)⟩
      · rw [Lines.add, if_pos Yes.out]
      · rw [Lines.add, if_pos Yes.out]
      · intro q hq
        rw [Lines.add, if_pos Yes.out, row_snoc, if_neg hq]
      · rw [Lines.add, if_pos Yes.out, row_snoc, if_pos rfl, ints_append]; exact ho
      · rcases hloc with hl | hl
        · exact .inl hl
        · refine .inr fun j hj => ?_
          rw [hl] at hj; injection hj with hj; rw [← hj]; simp
end
end Go.Proofs.Ytamidchoghmmgaa
