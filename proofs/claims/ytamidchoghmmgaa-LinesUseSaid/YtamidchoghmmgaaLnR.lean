/-
  The document's lines: what its calls come to.
-/
import Derived.Test.YtamidchoghmmgaaLn5
namespace Go.Proofs.Ytamidchoghmmgaa
open Go.RowKit Go.Sort
open Go.ChangeMaps (setBlock)
set_option linter.unusedVariables false
set_option linter.unusedSimpArgs false

theorem RefClamp_calls (n lo hi : Int) (w : World) (hlh : lo ≤ hi) : Calls Try.prog 25 #[.int .i64 n, .int .i64 lo, .int .i64 hi] w fun e w' => e = .returned (.int .i64 (clampI n lo hi)) ∧ w = w' := by
  go_enter Try.func25, Try.ntmps25
  go_wp2_with fail
  all_goals
    go_ret
    exact ⟨reti (by unfold clampI; omega), rfl⟩
theorem RefMod_calls (n m : Int) (w : World) (h1 : 1 ≤ m) (h2 : m ≤ 1000000) : Calls Try.prog 36 #[.int .i64 n, .int .i64 m] w fun e w' => e = .returned (.int .i64 (n % m)) ∧ w = w' := by
  obtain ⟨t1, t2, t3, t4⟩ := tmod_emod n m h1
  have hm0 : ¬ m = 0 := by omega
  go_enter Try.func36, Try.ntmps36
  go_wp2_with fail
  all_goals
    go_ret
    exact ⟨reti (by first | rfl | omega), rfl⟩

structure RefIn (w : World) (p : Nat) (v : Value) (s : Lines) : Prop where
  at_ : ob w p = some (.cells #[.int .i64 s.sets, .int .i64 s.ways, v] 44 (0, 0))
  all : OwnSl w 3 1 v (ints s.all)
  ok : s.Ok
def RefAt (w : World) (p : Nat) (s : Lines) (F : Nat → Prop) : Prop := ∃ v, RefIn w p v s ∧ (∀ j, j = p ∨ v.ownBlock = some j → F j) ∧ ∀ j, F j → j < w.heap.size

theorem RefIn.chg {S : Nat → Prop} {w w' : World} {p : Nat} {v : Value} {s : Lines} (h : RefIn w p v s) (hc : Chg S w w') (hn : ∀ j, j = p ∨ v.ownBlock = some j → ¬ S j) : RefIn w' p v s :=
  ⟨hc.ob h.at_ (hn _ (.inl rfl)), h.all.chg hc fun k hk => hn k (.inr hk), h.ok⟩
theorem RefIn.same {w w' : World} {p : Nat} {v : Value} {s : Lines} (h : RefIn w p v s) (hc : Chg (fun _ => False) w w') : RefIn w' p v s := h.chg hc fun _ _ h => h
theorem RefAt.chg {S : Nat → Prop} {w w' : World} {p : Nat} {s : Lines} {F : Nat → Prop} (h : RefAt w p s F) (hc : Chg S w w') (hn : ∀ j, F j → ¬ S j) : RefAt w' p s F := by
  obtain ⟨v, h1, h2, h3⟩ := h
  exact ⟨v, h1.chg hc fun j hj => hn j (h2 j hj), h2, fun j hj => Nat.lt_of_lt_of_le (h3 j hj) hc.size⟩
theorem RefAt.below {w w' : World} {p : Nat} {s : Lines} {F : Nat → Prop} (h : RefAt w p s F) (hb : Below w.heap.size w w') : RefAt w' p s F :=
  h.chg (S := fun _ => False) (Chg.of_below hb) fun _ _ h => h
theorem RefAt.ok {w : World} {p : Nat} {s : Lines} {F : Nat → Prop} (h : RefAt w p s F) : s.Ok := by obtain ⟨_, h1, _⟩ := h; exact h1.ok
theorem RefIn.ne {w : World} {p : Nat} {v : Value} {s : Lines} (h : RefIn w p v s) : ∀ j, v.ownBlock = some j → j ≠ p := by
  rintro j hj rfl
  obtain ⟨c, hc⟩ := h.all.typed hj
  have hp := h.at_
  rw [hp] at hc; injection hc with hc; injection hc with _ hc; revert hc; decide

theorem RefNew_calls (a b : Int) (w : World) : Calls Try.prog 9 #[.int .i64 a, .int .i64 b] w fun e w' => ∃ p F, e = .returned (.pointer (some ⟨p, 0, none⟩)) ∧ RefAt w' p (Lines.new a b) F ∧ (∀ j, F j → w.heap.size ≤ j) ∧ Below w.heap.size w w' := by
  go_enter Try.func9, Try.ntmps9
  go_wp2_with (go_at_call 25; refine (RefClamp_calls _ _ _ _ (by decide)).mono ?_; rintro e w' ⟨rfl, rfl⟩)
  go_ret
  refine ⟨w.heap.size, fun j => j = w.heap.size, rfl, ⟨.slice none 0 0, ⟨ob_alloc_at _ _, OwnSl.nil, Lines.new_ok a b⟩, ?_, ?_⟩, ?_, Chg.below (by repeat (first | with_reducible exact Chg.refl _ _ | with_reducible exact chg0 | with_reducible refine Chg.drewN ?_ _ | with_reducible refine Chg.drew ?_ | with_reducible refine Chg.alloc ?_ _ | with_reducible refine Chg.setCell ?_ _ _ (by first | (simp; done) | omega | (simp; omega)) | with_reducible refine Chg.setBlock ?_ _ _ (by first | (simp; done) | omega | (simp; omega)) | exact Chg.refl _ _))⟩
  · rintro j (rfl | h)
    · rfl
    · simp [Value.ownBlock] at h
  · rintro j rfl; simp
  · rintro j rfl; omega

section
variable {w : World} {p : Nat} {v : Value} {s : Lines}

set_option maxHeartbeats 1000000 in
theorem find_calls (b : Int) (h : RefIn w p v s) :
    Calls Try.prog 31 #[.pointer (some ⟨p, 0, none⟩), .int .i64 b] w fun e w' => e = .returned (.int .i64 (posOf s.all b)) ∧ ∃ n, w' = w.drewN n := by
  have c2 : w.cell? ⟨p, 2, none⟩ = some v := cell_ob h.at_ _
  obtain ⟨A, cap, rfl, hA1, hA2, hA3⟩ := sliceInts h.all.slice
  have HA := Lib.hid hA3
  clear h hA3
  generalize s.all = R at *
  go_enter Try.func31, Try.ntmps31
  go_wp2_with fail
  go_loop [5] (fun i => ∃ k : Nat, k ≤ R.length ∧ i = .int .i64 k ∧ posOf R b = Lib.idxFrom (R.drop k) b k) (fun i => R.length - (intOf i).toNat)
  case atStart => exact ⟨0, Nat.zero_le _, rfl, rfl⟩
  case round =>
    obtain ⟨k, hk, rfl, hf⟩ := hrel
    have Hf := Lib.hid hf
    clear hf
    by_cases hlt : k < R.length
    · obtain ⟨q, off, rfl, hc⟩ := HA.out (by omega)
      have hck : w.cell? ⟨q, off + k, none⟩ = some (.int .i64 (R.getD k 0)) := hc k hlt
      have hd : R.drop k = R.getD k 0 :: R.drop (k + 1) := by rw [List.drop_eq_getElem_cons hlt]; simp [List.getD, hlt]
      have Hd := Lib.hid hd
      clear hd hc
      generalize R.getD k 0 = x at *
      by_cases hx : x = b
      · have hx' : (x == b) = true := by simpa using hx
        have hx'' : decide (x = b) = true := by simpa using hx
        go_wp2_with fail
        go_ret
        rw [Hf.out, Hd.out, Lib.idxFrom, if_pos hx]
        exact ⟨rfl, 0, rfl⟩
      · have hx' : (x == b) = false := by simpa using hx
        have hx'' : decide (x = b) = false := by simpa using hx
        go_wp2_with fail
        exact ⟨⟨k + 1, by omega, by go_num, by rw [Hf.out, Hd.out, Lib.idxFrom, if_neg hx]⟩, by simp [intOf]; omega⟩
    · go_wp2_with fail
      go_ret
      rw [Hf.out, List.drop_of_length_le (by omega)]
      exact ⟨rfl, 0, rfl⟩

theorem posOf_has (R : List Int) (b : Int) : decide (0 ≤ posOf R b) = R.contains b := by
  unfold posOf
  rw [Bool.eq_iff_iff, decide_eq_true_eq, Lib.idxOf_nonneg_iff]

theorem RefHas_in (b : Int) (h : RefIn w p v s) :
    Calls Try.prog 19 #[.pointer (some ⟨p, 0, none⟩), .int .i64 b] w fun e w' => e = .returned (.bool (s.has b)) ∧ ∃ n, w' = w.drewN n := by
  have H := Lib.hid h
  have hp : decide (0 ≤ posOf s.all b) = s.has b := posOf_has _ _
  clear h
  go_enter Try.func19, Try.ntmps19
  go_wp2_with (go_at_call 31; refine (find_calls b H.out).mono ?_; rintro e w1 ⟨rfl, n1, rfl⟩)
  go_ret
  exact ⟨retb rfl, _, rfl⟩
theorem RefHas_calls {F : Nat → Prop} (b : Int) (h : RefAt w p s F) :
    Calls Try.prog 19 #[.pointer (some ⟨p, 0, none⟩), .int .i64 b] w fun e w' => e = .returned (.bool (s.has b)) ∧ ∃ n, w' = w.drewN n := by
  obtain ⟨_, h, _⟩ := h
  exact RefHas_in b h

set_option maxHeartbeats 1000000 in
set_option maxRecDepth 20000 in
theorem mates_calls (b : Int) (h : RefIn w p v s) (hl : s.all.length ≤ 1000000) :
    Calls Try.prog 28 #[.pointer (some ⟨p, 0, none⟩), .int .i64 b] w fun e w' => ∃ v', e = .returned v' ∧ OwnSl w' 3 1 v' (ints (s.mates b)) ∧ (∀ j, v'.ownBlock = some j → w.heap.size ≤ j) ∧ Below w.heap.size w w' := by
  have c0 : w.cell? ⟨p, 0, none⟩ = some (.int .i64 s.sets) := cell_ob h.at_ _
  have c2 : w.cell? ⟨p, 2, none⟩ = some v := cell_ob h.at_ _
  have lp := ob_lt h.at_
  have s1 := h.ok.s1
  have s2 := h.ok.s2
  obtain ⟨A, cap, rfl, hA1, hA2, hA3⟩ := sliceInts h.all.slice
  have HA := Lib.hid hA3
  clear h hA3
  unfold Lines.mates Lines.row
  generalize s.all = R at *
  generalize s.sets = z at *
  go_enter Try.func28, Try.ntmps28
  go_wp2_with fail
  go_loopw [5, 6] (fun u i wr => ∃ k : Nat, k ≤ R.length ∧ i = .int .i64 k ∧ OwnSl wr 3 1 u (ints ((R.take k).filter fun x => decide (x % z = b % z))) ∧ (∀ j, u.ownBlock = some j → w.heap.size ≤ j) ∧ Below w.heap.size w wr) (fun _ i _ => R.length - (intOf i).toNat)
  case atStart => exact ⟨0, Nat.zero_le _, rfl, OwnSl.made (c := #[]) (ob_alloc_new _ _ _ rfl) RowsOk.nil rfl (by decide), fun j hj => by simp only [Value.ownBlock, Option.some.injEq] at hj; omega, Chg.below (by repeat (first | with_reducible exact Chg.refl _ _ | with_reducible exact chg0 | with_reducible refine Chg.drewN ?_ _ | with_reducible refine Chg.drew ?_ | with_reducible refine Chg.alloc ?_ _ | with_reducible refine Chg.setCell ?_ _ _ (by first | (simp; done) | omega | (simp; omega)) | with_reducible refine Chg.setBlock ?_ _ _ (by first | (simp; done) | omega | (simp; omega)) | exact Chg.refl _ _))⟩
  case round =>
    obtain ⟨k, hk, rfl, hown, hlo, hb⟩ := hrel
    have Hown := Lib.hid hown
    have Hlo := Lib.hid hlo
    have Hb := Lib.hid hb
    have sr := hb.size
    have c0r : wr.cell? ⟨p, 0, none⟩ = some (.int .i64 z) := by rw [hb.cell lp]; exact c0
    have c2r : wr.cell? ⟨p, 2, none⟩ = some (.slice A R.length cap) := by rw [hb.cell lp]; exact c2
    clear hown hlo c0 c2
    by_cases hlt : k < R.length
    · obtain ⟨q, off, rfl, hc⟩ := HA.out (by omega)
      have hck : wr.cell? ⟨q, off + k, none⟩ = some (.int .i64 (R.getD k 0)) := by
        have h1 := hc k hlt
        rw [hb.cell (World.block_lt_of_cell? w _ h1)]; exact h1
      have ht : R.take (k + 1) = R.take k ++ [R.getD k 0] := by rw [List.take_succ_eq_append_getElem hlt]; simp [List.getD, hlt]
      have hfl : ((R.take k).filter fun x => decide (x % z = b % z)).length ≤ k := by
        have := List.length_filter_le (fun x => decide (x % z = b % z)) (R.take k)
        rw [List.length_take] at this; omega
      have Ht := Lib.hid ht
      clear ht hc hb
      generalize R.getD k 0 = x at *
      by_cases hx : x % z = b % z
      · have hx' : (x % z == b % z) = true := by simpa using hx
        have hx'' : decide (x % z = b % z) = true := by simpa using hx
        go_wp2_with fail
        go_quiet ((go_at_call 36; exact (RefMod_calls _ z _ s1 (by omega)).mono (fun _ _ h => ⟨h.1, _, h.2.symm⟩)))
        go_wp2_with (at_builtin; refine wpList_append_sl (xs := ints ((R.take k).filter fun x => decide (x % z = b % z))) (ys := [[.int .i64 x]]) rfl _ _ rfl tyInts rfl rfl (Hown.out.chg (S := fun _ => False) (by repeat (first | with_reducible exact Chg.refl _ _ | with_reducible exact chg0 | with_reducible refine Chg.drewN ?_ _ | with_reducible refine Chg.drew ?_ | with_reducible refine Chg.alloc ?_ _ | with_reducible refine Chg.setCell ?_ _ _ (by first | (simp; done) | omega | (simp; omega)) | with_reducible refine Chg.setBlock ?_ _ _ (by first | (simp; done) | omega | (simp; omega)) | exact Chg.refl _ _)) (fun _ _ h => h)) (OwnSl.made (e := 3) (ob_alloc_new _ _ _ rfl) (ints_ok [x]) rfl (by simp)).slice (ints_ok [x]) (by simp; omega) ?_; intro v5 w5 ho hc5 hloc)
        have hcc : Chg (fun j => u5.ownBlock = some j) wr w5 := Chg.trans (S' := fun j => u5.ownBlock = some j) (by repeat (first | with_reducible exact Chg.refl _ _ | with_reducible exact chg0 | with_reducible refine Chg.drewN ?_ _ | with_reducible refine Chg.drew ?_ | with_reducible refine Chg.alloc ?_ _ | with_reducible refine Chg.setCell ?_ _ _ (by first | (simp; done) | omega | (simp; omega)) | with_reducible refine Chg.setBlock ?_ _ _ (by first | (simp; done) | omega | (simp; omega)) | exact Chg.refl _ _)) hc5 (fun _ _ h => h)
        refine ⟨⟨k + 1, by omega, by go_num, by rw [Ht.out, List.filter_append, List.filter_cons, if_pos (by simpa using hx), List.filter_nil, ints_append]; exact ho, ?_, below_chg Hb.out hcc (fun j hj e => by have := Hlo.out j e; omega)⟩, by simp [intOf]; omega⟩
        intro j hj
        rcases hloc with h | h
        · rw [h] at hj; exact Hlo.out j hj
        · rw [h] at hj; injection hj with hj; rw [← hj]; simp; omega
      · have hx' : (x % z == b % z) = false := by simpa using hx
        have hx'' : decide (x % z = b % z) = false := by simpa using hx
        go_wp2_with fail
        go_quiet ((go_at_call 36; exact (RefMod_calls _ z _ s1 (by omega)).mono (fun _ _ h => ⟨h.1, _, h.2.symm⟩)))
        go_wp2_with fail
        exact ⟨⟨k + 1, by omega, by go_num, by rw [Ht.out, List.filter_append, List.filter_cons, if_neg (by simpa using hx)]; simpa using Hown.out.chg (S := fun _ => False) (by repeat (first | with_reducible exact Chg.refl _ _ | with_reducible exact chg0 | with_reducible refine Chg.drewN ?_ _ | with_reducible refine Chg.drew ?_ | with_reducible refine Chg.alloc ?_ _ | with_reducible refine Chg.setCell ?_ _ _ (by first | (simp; done) | omega | (simp; omega)) | with_reducible refine Chg.setBlock ?_ _ _ (by first | (simp; done) | omega | (simp; omega)) | exact Chg.refl _ _)) (fun _ _ h => h), Hlo.out, below_trans Hb.out (Chg.below (by repeat (first | with_reducible exact Chg.refl _ _ | with_reducible exact chg0 | with_reducible refine Chg.drewN ?_ _ | with_reducible refine Chg.drew ?_ | with_reducible refine Chg.alloc ?_ _ | with_reducible refine Chg.setCell ?_ _ _ (by first | (simp; done) | omega | (simp; omega)) | with_reducible refine Chg.setBlock ?_ _ _ (by first | (simp; done) | omega | (simp; omega)) | exact Chg.refl _ _)))⟩, by simp [intOf]; omega⟩
    · go_wp2_with fail
      go_ret
      rw [List.take_of_length_le (by omega)] at Hown
      exact ⟨u5, rfl, Hown.out, Hlo.out, Hb.out⟩
end
end Go.Proofs.Ytamidchoghmmgaa
