/-
  The program's lines: Remove, Use, Victim.
-/
import Derived.Test.YtamidchoghmmgaaLn2
namespace Go.Proofs.Ytamidchoghmmgaa
open Go.RowKit Go.Sort
open Go.ChangeMaps (setBlock)
set_option linter.unusedVariables false
set_option linter.unusedSimpArgs false

section
variable {w : World} {p : Nat} {s : Lines} {F : Nat → Prop}

theorem lines_no {w1 : World} (h : LinesAt w p s F) (h1 : Chg (fun _ => False) w w1) : ∃ F', LinesAt w1 p s F' ∧ Moves w w1 F F' := ⟨F, h.chg h1 (fun _ _ h => h), Moves.none h1⟩

set_option maxHeartbeats 1000000 in
set_option maxRecDepth 20000 in
theorem Remove_calls (b : Int) (h : LinesAt w p s F) :
    Calls Try.prog 14 #[.pointer (some ⟨p, 0, none⟩), .int .i64 b] w fun e w' => e = .returned (.bool (s.has b)) ∧ ∃ F', LinesAt w' p (s.rem b) F' ∧ Moves w w' F F' := by
  have No := Lib.hid (fun (w1 : World) (h1 : Chg (fun _ => False) w w1) => lines_no h h1)
  obtain ⟨mb, o, f, h, hF, hFl⟩ := h
  have c2 : w.cell? ⟨p, 2, none⟩ = some (.map (some mb)) := cell_ob h.at_ _
  have lp := ob_lt h.at_
  have H := Lib.hid h
  have HF := Lib.hid hF
  have HFl := Lib.hid hFl
  have hr := h.row (b % s.sets)
  have HR := Lib.hid hr
  obtain ⟨A, cap, hA, hA1, hA2, _⟩ := sliceInts (H.out.row (b % s.sets)).slice
  have hpos := idxOf_at b (s.row (b % s.sets))
  have hmem : b ∈ s.row (b % s.sets) ↔ b ∈ s.all := s.mem_mates b
  clear h hF hFl hr
  cases hh : s.has b with
  | false =>
    have hn : ¬ b ∈ s.row (b % s.sets) := fun hm => by rw [(s.has_iff b).2 (hmem.1 hm)] at hh; cases hh
    have hpo : posOf (s.row (b % s.sets)) b = -1 := by unfold posOf; rw [hpos, if_neg hn]
    rw [s.rem_none b hh]
    clear hpos hmem hn
    go_enter Try.func14, Try.ntmps14
    go_wp2_with (first
      | (go_at_call 26; refine (row_calls b H.out).mono ?_; rintro e w1 ⟨rfl, n1, rfl⟩)
      | (go_at_call 29; refine (Index_calls (s.row (b % s.sets)) b _ _ (by rw [← hA]; exact HR.out.slice.below (Chg.below (by repeat (first | with_reducible exact Chg.refl _ _ | with_reducible exact chg0 | with_reducible refine Chg.drewN ?_ _ | with_reducible refine Chg.drew ?_ | with_reducible refine Chg.alloc ?_ _ | with_reducible refine Chg.setCell ?_ _ _ (by first | (simp; done) | omega | (simp; omega)) | with_reducible refine Chg.setBlock ?_ _ _ (by first | (simp; done) | omega | (simp; omega)) | exact Chg.refl _ _))))).mono ?_; rintro e w1 ⟨rfl, rfl⟩; rw [hpo]))
    go_ret
    exact ⟨rfl, No.out _ (by repeat (first | with_reducible exact Chg.refl _ _ | with_reducible exact chg0 | with_reducible refine Chg.drewN ?_ _ | with_reducible refine Chg.drew ?_ | with_reducible refine Chg.alloc ?_ _ | with_reducible refine Chg.setCell ?_ _ _ (by first | (simp; done) | omega | (simp; omega)) | with_reducible refine Chg.setBlock ?_ _ _ (by first | (simp; done) | omega | (simp; omega)) | exact Chg.refl _ _))⟩
  | true =>
    have hy : b ∈ s.row (b % s.sets) := hmem.2 ((s.has_iff b).1 hh)
    have hi := List.idxOf_lt_length_of_mem hy
    obtain ⟨i, ei⟩ : ∃ i, i = (s.row (b % s.sets)).idxOf b := ⟨_, rfl⟩
    have hpo : posOf (s.row (b % s.sets)) b = (i : Int) := by unfold posOf; rw [hpos, if_pos hy, ei]
    have her : (s.row (b % s.sets)).eraseIdx i = (s.row (b % s.sets)).erase b := by rw [ei]; exact eraseIdx_at b _ hy
    rw [← ei] at hi
    clear hpos hmem ei
    have hil : (i : Int) < ((s.row (b % s.sets)).length : Int) := by omega
    have w2' := H.out.ok.w2
    have rl : ((s.row (b % s.sets)).length : Int) ≤ s.ways := H.out.ok.room _
    have c0 : w.cell? ⟨p, 0, none⟩ = some (.int .i64 s.sets) := cell_ob H.out.at_ _
    have s1 := H.out.ok.s1
    have s2 := H.out.ok.s2
    have Her := Lib.hid her
    clear her
    have HD := Lib.hid (fun W (hW : OwnSl W 3 1 (rowV f (b % s.sets)) (ints (s.row (b % s.sets)))) => Delete_calls (s.row (b % s.sets)) i (rowV f (b % s.sets)) W hW hi)
    go_enter Try.func14, Try.ntmps14
    go_wp2_with (first
      | (go_at_call 26; refine (row_calls b H.out).mono ?_; rintro e w1 ⟨rfl, n1, rfl⟩)
      | (go_at_call 29; refine (Index_calls (s.row (b % s.sets)) b _ _ (by rw [← hA]; exact HR.out.slice.below (Chg.below (by repeat (first | with_reducible exact Chg.refl _ _ | with_reducible exact chg0 | with_reducible refine Chg.drewN ?_ _ | with_reducible refine Chg.drew ?_ | with_reducible refine Chg.alloc ?_ _ | with_reducible refine Chg.setCell ?_ _ _ (by first | (simp; done) | omega | (simp; omega)) | with_reducible refine Chg.setBlock ?_ _ _ (by first | (simp; done) | omega | (simp; omega)) | exact Chg.refl _ _))))).mono ?_; rintro e w1 ⟨rfl, rfl⟩; rw [hpo]))
    have hne := H.out.ne
    have np : ¬ (rowV f (b % s.sets)).ownBlock = some p := fun e => by
      unfold rowV at e
      cases hk : f (b % s.sets) with
      | none => rw [hk] at e; simp [Value.ownBlock] at e
      | some u => rw [hk] at e; exact (hne.2 _ _ _ hk e).1 rfl
    have nm : ¬ (rowV f (b % s.sets)).ownBlock = some mb := fun e => by
      unfold rowV at e
      cases hk : f (b % s.sets) with
      | none => rw [hk] at e; simp [Value.ownBlock] at e
      | some u => rw [hk] at e; exact (hne.2 _ _ _ hk e).2 rfl
    have hm := H.out.map
    have lm := ob_lt hm
    obtain ⟨g, hg⟩ := Classical.axiomOfChoice (fun v : Value => H.out.obj.update tyIR (b % s.sets) v mb)
    have Hg := Lib.hid (fun v => (hg v).1)
    have hmu : ∀ (v : Value) (W : World), ob W mb = some o → (Instr.mapUpdate 40 (.map (some mb)) (.int .i64 (b % s.sets)) v).run Try.prog W = .ok () (setBlock W mb (g v)) := fun v => (hg v).2
    clear hg hne
    rw [← hA]
    have hwr : IntKind.i64.wrap ((i : Int) + 1) = (i : Int) + 1 := by rw [IntKind.wrap_i64]; omega
    clear hA hA1 hA2 hil rl hi
    go_region_law (first
      | (go_simp; go_at_call 27; refine (setc_calls b s.sets (by first | assumption | simp [go_sem, c0, lp]) s1 s2).mono ?_; rintro e w1 ⟨rfl, rfl⟩)
      | (go_simp; go_at_call 30; refine (HD.out _ (HR.out.chg (S := fun _ => False) (by repeat (first | with_reducible exact Chg.refl _ _ | with_reducible exact chg0 | with_reducible refine Chg.drewN ?_ _ | with_reducible refine Chg.drew ?_ | with_reducible refine Chg.alloc ?_ _ | with_reducible refine Chg.setCell ?_ _ _ (by first | (simp; done) | omega | (simp; omega)) | with_reducible refine Chg.setBlock ?_ _ _ (by first | (simp; done) | omega | (simp; omega)) | exact Chg.refl _ _)) (fun _ _ h => h))).mono ?_; rintro e w2 ⟨v2, rfl, ho, hob, hc⟩; have hsz := hc.size; have c0' : w2.cell? ⟨p, 0, none⟩ = some (.int .i64 s.sets) := (by rw [World.cell?_of_block (hc.block p (by simp [go_sem]; omega) np)]; simp [go_sem, c0, lp]); have c2' : w2.cell? ⟨p, 2, none⟩ = some (.map (some mb)) := (by rw [World.cell?_of_block (hc.block p (by simp [go_sem]; omega) np)]; simp [go_sem, c2, lp]); have hm' : ob w2 mb = some o := hc.ob (by simp [go_sem, hm, lm]) nm))
    all_goals
      go_wp2_with fail
      go_ret
      have hch : Chg (fun j => (rowV f (b % s.sets)).ownBlock = some j) w w2 := Chg.trans (S' := fun j => (rowV f (b % s.sets)).ownBlock = some j) (by repeat (first | with_reducible exact Chg.refl _ _ | with_reducible exact chg0 | with_reducible refine Chg.drewN ?_ _ | with_reducible refine Chg.drew ?_ | with_reducible refine Chg.alloc ?_ _ | with_reducible refine Chg.setCell ?_ _ _ (by first | (simp; done) | omega | (simp; omega)) | with_reducible refine Chg.setBlock ?_ _ _ (by first | (simp; done) | omega | (simp; omega)) | exact Chg.refl _ _)) hc (fun _ _ h => h)
      refine ⟨rfl, lines_put H.out HF.out HFl.out (b % s.sets) v2 rfl rfl ?_ (Lines.rem_ok H.out.ok b) ?_ hch (.inl hob) (Hg.out v2)⟩
      · intro q hq
        rw [row_erase s H.out.ok.nodup, if_neg hq]
      · rw [row_erase s H.out.ok.nodup, if_pos rfl, ← Her.out]; exact ho

theorem Use_calls (b : Int) (h : LinesAt w p s F) :
    Calls Try.prog 12 #[.pointer (some ⟨p, 0, none⟩), .int .i64 b] w fun e w' => e = .returned (.bool (s.has b)) ∧ ∃ F', LinesAt w' p (s.use b) F' ∧ Moves w w' F F' := by
  have hu := Lines.use_eq h.ok b
  have hc := fun hb => Lines.can_rem h.ok b hb
  have H := Lib.hid h
  clear h
  cases hh : s.has b with
  | false =>
    rw [hh, if_neg (by decide)] at hu
    have hr := s.rem_none b hh
    clear hc
    go_enter Try.func12, Try.ntmps12
    go_wp2_with (go_at_call 14; refine (Remove_calls b H.out).mono ?_; rintro e w1 ⟨rfl, F1, h1, m1⟩; rw [hh])
    go_ret
    exact ⟨rfl, F1, by rw [hu, ← hr]; exact h1, m1⟩
  | true =>
    rw [hh, if_pos rfl] at hu
    have hc1 := hc hh
    clear hc
    go_enter Try.func12, Try.ntmps12
    go_wp2_with (first
      | (go_at_call 14; refine (Remove_calls b H.out).mono ?_; rintro e w1 ⟨rfl, F1, h1, m1⟩; rw [hh])
      | (go_at_call 10; refine (Add_calls b h1).mono ?_; rintro e w2 ⟨rfl, F2, h2, m2⟩; rw [hc1]))
    go_ret
    exact ⟨rfl, F2, by rw [hu]; exact h2, m1.trans m2⟩

set_option maxHeartbeats 1000000 in
theorem Victim_calls (b pinned : Int) (h : LinesAt w p s F) :
    Calls Try.prog 16 #[.pointer (some ⟨p, 0, none⟩), .int .i64 b, .int .i64 pinned] w fun e w' => e = .returned (.tuple #[.int .i64 (s.victim b pinned).1, .bool (s.victim b pinned).2]) ∧ ∃ n, w' = w.drewN n := by
  obtain ⟨mb, o, f, h, hF, hFl⟩ := h
  have c1 : w.cell? ⟨p, 1, none⟩ = some (.int .i64 s.ways) := cell_ob h.at_ _
  have H := Lib.hid h
  obtain ⟨A, cap, hA, hA1, hA2, hA3⟩ := sliceInts (H.out.row (b % s.sets)).slice
  have hrl : s.mates b = s.row (b % s.sets) := rfl
  clear hF hFl
  by_cases q1 : b < 0
  · have hv : s.victim b pinned = (-1, false) := by rw [Lines.victim, if_pos q1]
    rw [hv]
    clear h hrl hA3
    go_enter Try.func16, Try.ntmps16
    go_wp2_with (go_at_call 26; refine (row_calls b H.out).mono ?_; rintro e w1 ⟨rfl, n1, rfl⟩)
    go_ret2
    exact ⟨rfl, _, rfl⟩
  have q1' : decide (b < 0) = false := by simpa using q1
  have hv : s.victim b pinned = if s.has b || decide (((s.mates b).length : Int) < s.ways) then (-1, true) else firstNot pinned (s.mates b) := by rw [Lines.victim, if_neg q1]
  rw [hv, hrl]
  clear hv hrl h
  generalize s.row (b % s.sets) = R at *
  cases hh : s.has b with
  | true =>
    clear hA3
    go_enter Try.func16, Try.ntmps16
    go_wp2_with (first
      | (go_at_call 26; refine (row_calls b H.out).mono ?_; rintro e w1 ⟨rfl, n1, rfl⟩)
      | (go_at_call 18; refine (Has_in b (H.out.chg (S := fun _ => False) (by repeat (first | with_reducible exact Chg.refl _ _ | with_reducible exact chg0 | with_reducible refine Chg.drewN ?_ _ | with_reducible refine Chg.drew ?_ | with_reducible refine Chg.alloc ?_ _ | with_reducible refine Chg.setCell ?_ _ _ (by first | (simp; done) | omega | (simp; omega)) | with_reducible refine Chg.setBlock ?_ _ _ (by first | (simp; done) | omega | (simp; omega)) | exact Chg.refl _ _)) (fun _ _ h => h))).mono ?_; rintro e w1 ⟨rfl, n2, rfl⟩; rw [hh]))
    go_ret2
    exact ⟨rfl, _, rfl⟩
  | false =>
    by_cases q3 : (R.length : Int) < s.ways
    · have q3' : decide ((R.length : Int) < s.ways) = true := by simpa using q3
      rw [q3']
      clear hA3
      go_enter Try.func16, Try.ntmps16
      go_wp2_with (first
        | (go_at_call 26; refine (row_calls b H.out).mono ?_; rintro e w1 ⟨rfl, n1, rfl⟩)
        | (go_at_call 18; refine (Has_in b (H.out.chg (S := fun _ => False) (by repeat (first | with_reducible exact Chg.refl _ _ | with_reducible exact chg0 | with_reducible refine Chg.drewN ?_ _ | with_reducible refine Chg.drew ?_ | with_reducible refine Chg.alloc ?_ _ | with_reducible refine Chg.setCell ?_ _ _ (by first | (simp; done) | omega | (simp; omega)) | with_reducible refine Chg.setBlock ?_ _ _ (by first | (simp; done) | omega | (simp; omega)) | exact Chg.refl _ _)) (fun _ _ h => h))).mono ?_; rintro e w1 ⟨rfl, n2, rfl⟩; rw [hh]))
      go_ret2
      exact ⟨rfl, _, rfl⟩
    have q3' : decide ((R.length : Int) < s.ways) = false := by simpa using q3
    rw [q3']
    simp only [Bool.or_self, Bool.false_eq_true, if_false]
    have HA := Lib.hid hA3
    clear hA3
    go_enter Try.func16, Try.ntmps16
    go_wp2_with (first
      | (go_at_call 26; refine (row_calls b H.out).mono ?_; rintro e w1 ⟨rfl, n1, rfl⟩)
      | (go_at_call 18; refine (Has_in b (H.out.chg (S := fun _ => False) (by repeat (first | with_reducible exact Chg.refl _ _ | with_reducible exact chg0 | with_reducible refine Chg.drewN ?_ _ | with_reducible refine Chg.drew ?_ | with_reducible refine Chg.alloc ?_ _ | with_reducible refine Chg.setCell ?_ _ _ (by first | (simp; done) | omega | (simp; omega)) | with_reducible refine Chg.setBlock ?_ _ _ (by first | (simp; done) | omega | (simp; omega)) | exact Chg.refl _ _)) (fun _ _ h => h))).mono ?_; rintro e w1 ⟨rfl, n2, rfl⟩; rw [hh]))
    generalize hW : w.drewN (n1 + n2) = W
    have hcell : ∀ a, W.cell? a = w.cell? a := fun a => by rw [← hW]; rfl
    have Hcell := Lib.hid hcell
    clear hcell
    go_loop [30] (fun i => ∃ k : Nat, k ≤ R.length ∧ i = .int .i64 k ∧ firstNot pinned R = firstNot pinned (R.drop k)) (fun i => R.length - (intOf i).toNat)
    case atStart => exact ⟨0, Nat.zero_le _, rfl, rfl⟩
    case round =>
      obtain ⟨k, hk, rfl, hf⟩ := hrel
      have Hf := Lib.hid hf
      clear hf
      by_cases hlt : k < R.length
      · obtain ⟨q, off, rfl, hc⟩ := HA.out (by omega)
        have hck : W.cell? ⟨q, off + k, none⟩ = some (.int .i64 (R.getD k 0)) := by rw [Hcell.out]; exact hc k hlt
        have hd : R.drop k = R.getD k 0 :: R.drop (k + 1) := by rw [List.drop_eq_getElem_cons hlt]; simp [List.getD, hlt]
        have Hd := Lib.hid hd
        clear hd hc
        generalize R.getD k 0 = x at *
        by_cases hx : x = pinned
        · have hx' : (x != pinned) = false := by simpa using hx
          go_wp2_with fail
          exact ⟨⟨k + 1, by omega, by go_num, by rw [Hf.out, Hd.out, firstNot, if_pos hx]⟩, by simp [intOf]; omega⟩
        · have hx' : (x != pinned) = true := by simpa using hx
          go_wp2_with fail
          go_ret2
          rw [Hf.out, Hd.out, firstNot, if_neg hx]
          exact ⟨rfl, _, hW.symm⟩
      · go_wp2_with fail
        go_ret2
        rw [Hf.out, List.drop_of_length_le (by omega)]
        exact ⟨rfl, _, hW.symm⟩
end
end Go.Proofs.Ytamidchoghmmgaa
