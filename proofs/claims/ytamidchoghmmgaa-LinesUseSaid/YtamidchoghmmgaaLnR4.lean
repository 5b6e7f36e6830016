/-
  The document's lines: Victim, Copy; two lists.
-/
import Derived.Test.YtamidchoghmmgaaLnR
namespace Go.Proofs.Ytamidchoghmmgaa
open Go.RowKit Go.Sort
open Go.ChangeMaps (setBlock)
set_option linter.unusedVariables false
set_option linter.unusedSimpArgs false

theorem ints_at {w w' : World} {l : List Int} {v : Value} (h : SliceIs w 1 v (ints l)) (hb : Below w.heap.size w w') : ∃ A cap, v = .slice A l.length cap ∧ l.length ≤ cap ∧ l.length ≤ 9223372036854775807 ∧
    ∀ k, k < l.length → ∃ b off, A = some ⟨b, off, none⟩ ∧ w'.cell? ⟨b, off + k, none⟩ = some (.int .i64 (l.getD k 0)) := by
  obtain ⟨A, cap, rfl, h1, h2, h3⟩ := sliceInts (h.below hb)
  refine ⟨A, cap, rfl, h1, h2, fun k hk => ?_⟩
  obtain ⟨b, off, e, hc⟩ := h3 (by omega)
  exact ⟨b, off, e, hc k hk⟩

set_option maxHeartbeats 1000000 in
theorem Ints_calls (a b : List Int) (va vb : Value) (w : World) (ha : SliceIs w 1 va (ints a)) (hb : SliceIs w 1 vb (ints b)) :
    Calls Try.prog 20 #[va, vb] w fun e w' => e = .returned (.bool (decide (a = b))) ∧ ∃ n, w' = w.drewN n := by
  obtain ⟨A, ca, rfl, a1, a2, a3⟩ := ints_at ha (Chg.below (Chg.refl _ _))
  obtain ⟨B, cb, rfl, b1, b2, b3⟩ := ints_at hb (Chg.below (Chg.refl _ _))
  clear ha hb
  have A3 := Lib.hid a3
  have B3 := Lib.hid b3
  clear a3 b3
  by_cases hl : a.length = b.length
  · have hl1 : ((a.length : Int) != (b.length : Int)) = false := by simp [hl]
    have hl2 : decide ((a.length : Int) = (b.length : Int)) = true := by simp [hl]
    go_enter Try.func20, Try.ntmps20
    go_wp2_with fail
    go_loopw [5] (fun i wr => ∃ (k n : Nat), k ≤ a.length ∧ i = .int .i64 k ∧ a.take k = b.take k ∧ wr = w.drewN n) (fun i _ => a.length - (intOf i).toNat)
    case atStart => exact ⟨0, 0, Nat.zero_le _, rfl, rfl, rfl⟩
    case round =>
      obtain ⟨k, n, hk, rfl, hf, rfl⟩ := hrel
      have Hf := Lib.hid hf
      clear hf
      by_cases hlt : k < a.length
      · obtain ⟨q, off, rfl, hc⟩ := A3.out k hlt
        obtain ⟨q', off', rfl, hc'⟩ := B3.out k (by omega)
        have h1 : a.take (k + 1) = a.take k ++ [a.getD k 0] := by rw [List.take_succ_eq_append_getElem hlt]; simp [List.getD, hlt]
        have h2 : b.take (k + 1) = b.take k ++ [b.getD k 0] := by rw [List.take_succ_eq_append_getElem (by omega)]; simp [List.getD, show k < b.length by omega]
        have H1 := Lib.hid h1
        have H2 := Lib.hid h2
        have hlb : (k : Int) < (b.length : Int) := by omega
        have hkb : k < b.length := by omega
        clear h1 h2
        generalize a.getD k 0 = x at *
        generalize b.getD k 0 = y at *
        by_cases hx : x = y
        · have hx' : (x != y) = false := by simpa using hx
          have hx'' : decide (x = y) = true := by simpa using hx
          go_wp2_with fail
          go_quiet (fail)
          go_wp2_with fail
          exact ⟨⟨k + 1, _, by omega, by go_num, by rw [H1.out, H2.out, Hf.out, hx], rfl⟩, by simp [intOf]; omega⟩
        · have hx' : (x != y) = true := by simpa using hx
          have hx'' : decide (x = y) = false := by simpa using hx
          go_wp2_with fail
          go_quiet (fail)
          go_wp2_with fail
          go_ret
          refine ⟨retb ?_, n + nq, by simp only [World.drewN, Nat.add_assoc]⟩
          symm
          rw [decide_eq_false_iff_not]
          intro e
          apply hx
          have := H1.out
          rw [e, H2.out] at this
          have := List.append_inj_right' this rfl
          simpa using this.symm
      · go_wp2_with fail
        go_ret
        refine ⟨retb ?_, _, rfl⟩
        symm
        rw [decide_eq_true_eq]
        have := Hf.out
        rw [List.take_of_length_le (by omega), List.take_of_length_le (by omega)] at this
        exact this
  · have hl1 : ((a.length : Int) != (b.length : Int)) = true := by simp; omega
    have hl2 : decide ((a.length : Int) = (b.length : Int)) = false := by simp; omega
    go_enter Try.func20, Try.ntmps20
    go_wp2_with fail
    go_ret
    refine ⟨retb ?_, 0, rfl⟩
    symm
    rw [decide_eq_false_iff_not]
    intro e
    exact hl (by rw [e])

section
variable {w : World} {p : Nat} {s : Lines} {F : Nat → Prop}

set_option maxHeartbeats 1000000 in
set_option maxRecDepth 20000 in
theorem RefVictim_calls (b pinned : Int) (h : RefAt w p s F) (hl : s.all.length ≤ 100000) :
    Calls Try.prog 17 #[.pointer (some ⟨p, 0, none⟩), .int .i64 b, .int .i64 pinned] w fun e w' => e = .returned (.tuple #[.int .i64 (s.victim b pinned).1, .bool (s.victim b pinned).2]) ∧ Below w.heap.size w w' := by
  obtain ⟨v, h, _⟩ := h
  have c1 : w.cell? ⟨p, 1, none⟩ = some (.int .i64 s.ways) := cell_ob h.at_ _
  have lp := ob_lt h.at_
  have H := Lib.hid h
  have hv : s.victim b pinned = if b < 0 then (-1, false) else if s.has b || decide (((s.mates b).length : Int) < s.ways) then (-1, true) else firstNot pinned (s.mates b) := rfl
  clear h
  have hl' : s.all.length ≤ 1000000 := by omega
  go_enter Try.func17, Try.ntmps17
  go_wp2_with fail
  refine (mates_calls b H.out hl').mono ?_
  rintro e w2 ⟨u2, rfl, hm2, _, hb2⟩
  have hw2 : Chg (fun _ => False) w w2 := Chg.of_below hb2
  have c1' : w2.cell? ⟨p, 1, none⟩ = some (.int .i64 s.ways) := hw2.cell c1 (fun h => h)
  have H2 := Lib.hid (H.out.same hw2)
  obtain ⟨A, cap, rfl, r1, r2, r3⟩ := ints_at hm2.slice (Chg.below (Chg.refl _ _))
  have R3 := Lib.hid r3
  have B2 := Lib.hid hb2
  clear hm2 r3 hb2 hw2 c1
  by_cases q1 : b < 0
  · rw [if_pos q1] at hv
    go_wp2_with fail
    go_ret2
    rw [hv]
    exact ⟨rfl, B2.out⟩
  have q1' : decide (b < 0) = false := by simpa using q1
  rw [if_neg q1] at hv
  generalize s.mates b = R at *
  cases hh : s.has b with
  | true =>
    rw [hh] at hv
    simp only [Bool.true_or, if_true] at hv
    go_wp2_with (go_at_call 19; refine (RefHas_in b H2.out).mono ?_; rintro e w1 ⟨rfl, n2, rfl⟩; rw [hh])
    go_ret2
    rw [hv]
    exact ⟨rfl, below_trans B2.out (Chg.below (by repeat (first | with_reducible exact Chg.refl _ _ | with_reducible exact chg0 | with_reducible refine Chg.drewN ?_ _ | with_reducible refine Chg.drew ?_ | with_reducible refine Chg.alloc ?_ _ | with_reducible refine Chg.setCell ?_ _ _ (by first | (simp; done) | omega | (simp; omega)) | with_reducible refine Chg.setBlock ?_ _ _ (by first | (simp; done) | omega | (simp; omega)) | exact Chg.refl _ _)))⟩
  | false =>
    rw [hh] at hv
    simp only [Bool.false_or] at hv
    by_cases q3 : (R.length : Int) < s.ways
    · have q3' : decide ((R.length : Int) < s.ways) = true := by simpa using q3
      rw [q3', if_pos rfl] at hv
      go_wp2_with (go_at_call 19; refine (RefHas_in b H2.out).mono ?_; rintro e w1 ⟨rfl, n2, rfl⟩; rw [hh])
      go_ret2
      rw [hv]
      exact ⟨rfl, below_trans B2.out (Chg.below (by repeat (first | with_reducible exact Chg.refl _ _ | with_reducible exact chg0 | with_reducible refine Chg.drewN ?_ _ | with_reducible refine Chg.drew ?_ | with_reducible refine Chg.alloc ?_ _ | with_reducible refine Chg.setCell ?_ _ _ (by first | (simp; done) | omega | (simp; omega)) | with_reducible refine Chg.setBlock ?_ _ _ (by first | (simp; done) | omega | (simp; omega)) | exact Chg.refl _ _)))⟩
    have q3' : decide ((R.length : Int) < s.ways) = false := by simpa using q3
    rw [q3', if_neg (by decide)] at hv
    go_wp2_with (go_at_call 19; refine (RefHas_in b H2.out).mono ?_; rintro e w1 ⟨rfl, n2, rfl⟩; rw [hh])
    have Hv := Lib.hid hv
    clear hv
    go_loop [9] (fun i => ∃ k : Nat, k ≤ R.length ∧ i = .int .i64 k ∧ firstNot pinned R = firstNot pinned (R.drop k)) (fun i => R.length - (intOf i).toNat)
    case atStart => exact ⟨0, Nat.zero_le _, rfl, rfl⟩
    case round =>
      obtain ⟨k, hk, rfl, hf⟩ := hrel
      have Hf := Lib.hid hf
      clear hf
      by_cases hlt : k < R.length
      · obtain ⟨q, off, rfl, hck⟩ := R3.out k hlt
        have hck' : (w2.drewN n2).cell? ⟨q, off + k, none⟩ = some (.int .i64 (R.getD k 0)) := hck
        have hd : R.drop k = R.getD k 0 :: R.drop (k + 1) := by rw [List.drop_eq_getElem_cons hlt]; simp [List.getD, hlt]
        have Hd := Lib.hid hd
        clear hd
        generalize R.getD k 0 = x at *
        by_cases hx : x = pinned
        · have hx' : (x != pinned) = false := by simpa using hx
          go_wp2_with fail
          exact ⟨⟨k + 1, by omega, by go_num, by rw [Hf.out, Hd.out, firstNot, if_pos hx]⟩, by simp [intOf]; omega⟩
        · have hx' : (x != pinned) = true := by simpa using hx
          go_wp2_with fail
          go_ret2
          rw [Hv.out, Hf.out, Hd.out, firstNot, if_neg hx]
          exact ⟨rfl, below_trans B2.out (Chg.below (by repeat (first | with_reducible exact Chg.refl _ _ | with_reducible exact chg0 | with_reducible refine Chg.drewN ?_ _ | with_reducible refine Chg.drew ?_ | with_reducible refine Chg.alloc ?_ _ | with_reducible refine Chg.setCell ?_ _ _ (by first | (simp; done) | omega | (simp; omega)) | with_reducible refine Chg.setBlock ?_ _ _ (by first | (simp; done) | omega | (simp; omega)) | exact Chg.refl _ _)))⟩
      · go_wp2_with fail
        go_ret2
        rw [Hv.out, Hf.out, List.drop_of_length_le (by omega)]
        exact ⟨rfl, below_trans B2.out (Chg.below (by repeat (first | with_reducible exact Chg.refl _ _ | with_reducible exact chg0 | with_reducible refine Chg.drewN ?_ _ | with_reducible refine Chg.drew ?_ | with_reducible refine Chg.alloc ?_ _ | with_reducible refine Chg.setCell ?_ _ _ (by first | (simp; done) | omega | (simp; omega)) | with_reducible refine Chg.setBlock ?_ _ _ (by first | (simp; done) | omega | (simp; omega)) | exact Chg.refl _ _)))⟩
end
end Go.Proofs.Ytamidchoghmmgaa
