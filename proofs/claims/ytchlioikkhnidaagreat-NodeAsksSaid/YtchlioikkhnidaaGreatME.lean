/-
  The document's lines: what its calls come to.
-/
import Derived.Test.YtchlioikkhnidaaGreatMD
import Derived.StillTailTactics
set_option linter.unusedVariables false
set_option linter.unusedSimpArgs false
namespace Go.Proofs.YtchlioikkhnidaaGreat
open Go.RowKit Go.Sort
open Go.ChangeMaps (setBlock)
set_option linter.unusedVariables false
set_option linter.unusedSimpArgs false

theorem RefClamp_calls (n lo hi : Int) (w : World) (hlh : lo ≤ hi) : Calls Tryz.prog 146 #[.int .i64 n, .int .i64 lo, .int .i64 hi] w fun e w' => e = .returned (.int .i64 (clampI n lo hi)) ∧ w = w' := by
  go_enter Tryz.func146, Tryz.ntmps146
  go_wp2_with fail
  all_goals
    go_ret
    exact ⟨reti (by unfold clampI; omega), rfl⟩
theorem RefMod_calls (n m : Int) (w : World) (h1 : 1 ≤ m) (h2 : m ≤ 1000000) : Calls Tryz.prog 158 #[.int .i64 n, .int .i64 m] w fun e w' => e = .returned (.int .i64 (n % m)) ∧ w = w' := by
  obtain ⟨t1, t2, t3, t4⟩ := tmod_emod n m h1
  have hm0 : ¬ m = 0 := by omega
  go_enter Tryz.func158, Tryz.ntmps158
  go_wp2_with fail
  all_goals
    go_ret
    exact ⟨reti (by first | rfl | omega), rfl⟩

structure RefIn (w : World) (p : Nat) (v : Value) (s : Lines) : Prop where
  at_ : ob w p = some (.cells #[.int .i64 s.sets, .int .i64 s.ways, v] 212 (0, 0))
  all : OwnSl w 3 1 v (ints s.all)
  ok : s.Ok
def RefAt (w : World) (p : Nat) (s : Lines) (F : Nat → Prop) : Prop := ∃ v, RefIn w p v s ∧ (∀ j, j = p ∨ v.ownBlock = some j → F j) ∧ ∀ j, F j → j < w.heap.size

theorem RefIn.chg {S : Nat → Prop} {w w' : World} {p : Nat} {v : Value} {s : Lines} (h : RefIn w p v s) (hc : Chg S w w') (hn : ∀ j, j = p ∨ v.ownBlock = some j → ¬ S j) : RefIn w' p v s :=
  ⟨hc.ob h.at_ (hn _ (.inl rfl)), h.all.chg hc fun k hk => hn k (.inr hk), h.ok⟩
theorem RefIn.same {w w' : World} {p : Nat} {v : Value} {s : Lines} (h : RefIn w p v s) (hc : Chg (fun _ => False) w w') : RefIn w' p v s := h.chg hc fun _ _ h => h
theorem RefAt.chg {S : Nat → Prop} {w w' : World} {p : Nat} {s : Lines} {F : Nat → Prop} (h : RefAt w p s F) (hc : Chg S w w') (hn : ∀ j, F j → ¬ S j) : RefAt w' p s F := by
  obtain ⟨v, h1, h2, h3⟩ := h
  exact ⟨v, h1.chg hc fun j hj => hn j (h2 j hj), h2, fun j hj => Nat.lt_of_lt_of_le (h3 j hj) hc.size⟩
theorem RefAt.below {w w' : World} {p : Nat} {s : Lines} {F : Nat → Prop} (h : RefAt w p s F) (hb : Below w.heap.size w w') : RefAt w' p s F :=
  h.chg (S := fun _ => False) (Chg.of_below hb) fun _ _ h => h
theorem RefAt.ok {w : World} {p : Nat} {s : Lines} {F : Nat → Prop} (h : RefAt w p s F) : s.Ok := by obtain ⟨_, h1, _⟩ := h; exact h1.ok
theorem RefIn.ne {w : World} {p : Nat} {v : Value} {s : Lines} (h : RefIn w p v s) : ∀ j, v.ownBlock = some j → j ≠ p := by
  rintro j hj rfl
  obtain ⟨c, hc⟩ := h.all.typed hj
  have hp := h.at_
  rw [hp] at hc; injection hc with hc; injection hc with _ hc; revert hc; decide

theorem RefNew_calls (a b : Int) (w : World) : Calls Tryz.prog 123 #[.int .i64 a, .int .i64 b] w fun e w' => ∃ p F, e = .returned (.pointer (some ⟨p, 0, none⟩)) ∧ RefAt w' p (Lines.new a b) F ∧ (∀ j, F j → w.heap.size ≤ j) ∧ Below w.heap.size w w' := by
  go_enter Tryz.func123, Tryz.ntmps123
  go_wp2_with (go_at_call 146; refine (RefClamp_calls _ _ _ _ (by decide)).mono ?_; rintro e w' ⟨rfl, rfl⟩)
  go_ret
  refine ⟨w.heap.size, fun j => j = w.heap.size, rfl, ⟨.slice none 0 0, ⟨ob_alloc_at _ _, OwnSl.nil, Lines.new_ok a b⟩, ?_, ?_⟩, ?_, Chg.below (by repeat (first | with_reducible exact Chg.refl _ _ | with_reducible exact chg0 | with_reducible refine Chg.drewN ?_ _ | with_reducible refine Chg.drew ?_ | with_reducible refine Chg.alloc ?_ _ | with_reducible refine Chg.setCell ?_ _ _ (by first | (simp; done) | omega | (simp; omega)) | with_reducible refine Chg.setBlock ?_ _ _ (by first | (simp; done) | omega | (simp; omega)) | exact Chg.refl _ _))⟩
  · rintro j (rfl | h)
    · rfl
    · simp [Value.ownBlock] at h
  · rintro j rfl; simp
  · rintro j rfl; omega

section
variable {w : World} {p : Nat} {v : Value} {s : Lines}

set_option maxHeartbeats 1000000 in
theorem find_calls (b : Int) (h : RefIn w p v s) :
    Calls Tryz.prog 142 #[.pointer (some ⟨p, 0, none⟩), .int .i64 b] w fun e w' => e = .returned (.int .i64 (posOf s.all b)) ∧ ∃ n, w' = w.drewN n := by
  have c2 : w.cell? ⟨p, 2, none⟩ = some v := cell_ob h.at_ _
  obtain ⟨A, cap, rfl, hA1, hA2, hA3⟩ := sliceInts h.all.slice
  have HA := Lib.hid hA3
  clear h hA3
  generalize s.all = R at *
  go_enter Tryz.func142, Tryz.ntmps142
  go_wp2_with fail
  go_loop [5] (fun i => ∃ k : Nat, k ≤ R.length ∧ i = .int .i64 k ∧ posOf R b = Lib.idxFrom (R.drop k) b k) (fun i => R.length - (intOf i).toNat)
  case atStart => exact ⟨0, Nat.zero_le _, rfl, rfl⟩
  case round =>
    obtain ⟨k, hk, rfl, hf⟩ := hrel
    have Hf := Lib.hid hf
    clear hf
    by_cases hlt : k < R.length
    · obtain ⟨q, off, rfl, hc⟩ := HA.out (by omega)
      have hck : w.cell? ⟨q, off + k, none⟩ = some (.int .i64 (R.getD k 0)) := hc k hlt
      have hd : R.drop k = R.getD k 0 :: R.drop (k + 1) := by rw [List.drop_eq_getElem_cons hlt]; simp [List.getD, hlt]
      have Hd := Lib.hid hd
      clear hd hc
      generalize R.getD k 0 = x at *
      by_cases hx : x = b
      · have hx' : (x == b) = true := by simpa using hx
        have hx'' : decide (x = b) = true := by simpa using hx
        go_wp2_with fail
        go_ret
        rw [Hf.out, Hd.out, Lib.idxFrom, if_pos hx]
        exact ⟨rfl, 0, rfl⟩
      · have hx' : (x == b) = false := by simpa using hx
        have hx'' : decide (x = b) = false := by simpa using hx
        go_wp2_with fail
        exact ⟨⟨k + 1, by omega, by go_num, by rw [Hf.out, Hd.out, Lib.idxFrom, if_neg hx]⟩, by simp [intOf]; omega⟩
    · go_wp2_with fail
      go_ret
      rw [Hf.out, List.drop_of_length_le (by omega)]
      exact ⟨rfl, 0, rfl⟩

theorem posOf_has (R : List Int) (b : Int) : decide (0 ≤ posOf R b) = R.contains b := by
  unfold posOf
  rw [Bool.eq_iff_iff, decide_eq_true_eq, Lib.idxOf_nonneg_iff]

theorem RefHas_in (b : Int) (h : RefIn w p v s) :
    Calls Tryz.prog 112 #[.pointer (some ⟨p, 0, none⟩), .int .i64 b] w fun e w' => e = .returned (.bool (s.has b)) ∧ ∃ n, w' = w.drewN n := by
  have H := Lib.hid h
  have hp : decide (0 ≤ posOf s.all b) = s.has b := posOf_has _ _
  clear h
  go_enter Tryz.func112, Tryz.ntmps112
  go_wp2_with (go_at_call 142; refine (find_calls b H.out).mono ?_; rintro e w1 ⟨rfl, n1, rfl⟩)
  go_ret
  exact ⟨retb rfl, _, rfl⟩
theorem RefHas_calls {F : Nat → Prop} (b : Int) (h : RefAt w p s F) :
    Calls Tryz.prog 112 #[.pointer (some ⟨p, 0, none⟩), .int .i64 b] w fun e w' => e = .returned (.bool (s.has b)) ∧ ∃ n, w' = w.drewN n := by
  obtain ⟨_, h, _⟩ := h
  exact RefHas_in b h

set_option maxHeartbeats 1000000 in
set_option maxRecDepth 20000 in
theorem mates_calls (b : Int) (h : RefIn w p v s) (hl : s.all.length ≤ 1000000) :
    Calls Tryz.prog 141 #[.pointer (some ⟨p, 0, none⟩), .int .i64 b] w fun e w' => ∃ v', e = .returned v' ∧ OwnSl w' 3 1 v' (ints (s.mates b)) ∧ (∀ j, v'.ownBlock = some j → w.heap.size ≤ j) ∧ Below w.heap.size w w' := by
  have c0 : w.cell? ⟨p, 0, none⟩ = some (.int .i64 s.sets) := cell_ob h.at_ _
  have c2 : w.cell? ⟨p, 2, none⟩ = some v := cell_ob h.at_ _
  have lp := ob_lt h.at_
  have s1 := h.ok.s1
  have s2 := h.ok.s2
  obtain ⟨A, cap, rfl, hA1, hA2, hA3⟩ := sliceInts h.all.slice
  have HA := Lib.hid hA3
  clear h hA3
  unfold Lines.mates Lines.row
  generalize s.all = R at *
  generalize s.sets = z at *
  go_enter Tryz.func141, Tryz.ntmps141
  go_wp2_with fail
  go_loopw [5, 6] (fun u i wr => ∃ k : Nat, k ≤ R.length ∧ i = .int .i64 k ∧ OwnSl wr 3 1 u (ints ((R.take k).filter fun x => decide (x % z = b % z))) ∧ (∀ j, u.ownBlock = some j → w.heap.size ≤ j) ∧ Below w.heap.size w wr) (fun _ i _ => R.length - (intOf i).toNat)
  case atStart => exact ⟨0, Nat.zero_le _, rfl, OwnSl.made (c := #[]) (ob_alloc_new _ _ _ rfl) RowsOk.nil rfl (by decide), fun j hj => by simp only [Value.ownBlock, Option.some.injEq] at hj; omega, Chg.below (by repeat (first | with_reducible exact Chg.refl _ _ | with_reducible exact chg0 | with_reducible refine Chg.drewN ?_ _ | with_reducible refine Chg.drew ?_ | with_reducible refine Chg.alloc ?_ _ | with_reducible refine Chg.setCell ?_ _ _ (by first | (simp; done) | omega | (simp; omega)) | with_reducible refine Chg.setBlock ?_ _ _ (by first | (simp; done) | omega | (simp; omega)) | exact Chg.refl _ _))⟩
  case round =>
    obtain ⟨k, hk, rfl, hown, hlo, hb⟩ := hrel
    have Hown := Lib.hid hown
    have Hlo := Lib.hid hlo
    have Hb := Lib.hid hb
    have sr := hb.size
    have c0r : wr.cell? ⟨p, 0, none⟩ = some (.int .i64 z) := by rw [hb.cell lp]; exact c0
    have c2r : wr.cell? ⟨p, 2, none⟩ = some (.slice A R.length cap) := by rw [hb.cell lp]; exact c2
    clear hown hlo c0 c2
    by_cases hlt : k < R.length
    · obtain ⟨q, off, rfl, hc⟩ := HA.out (by omega)
      have hck : wr.cell? ⟨q, off + k, none⟩ = some (.int .i64 (R.getD k 0)) := by
        have h1 := hc k hlt
        rw [hb.cell (World.block_lt_of_cell? w _ h1)]; exact h1
      have ht : R.take (k + 1) = R.take k ++ [R.getD k 0] := by rw [List.take_succ_eq_append_getElem hlt]; simp [List.getD, hlt]
      have hfl : ((R.take k).filter fun x => decide (x % z = b % z)).length ≤ k := by
        have := List.length_filter_le (fun x => decide (x % z = b % z)) (R.take k)
        rw [List.length_take] at this; omega
      have Ht := Lib.hid ht
      clear ht hc hb
      generalize R.getD k 0 = x at *
      by_cases hx : x % z = b % z
      · have hx' : (x % z == b % z) = true := by simpa using hx
        have hx'' : decide (x % z = b % z) = true := by simpa using hx
        go_wp2_with fail
        go_quiet ((go_at_call 158; exact (RefMod_calls _ z _ s1 (by omega)).mono (fun _ _ h => ⟨h.1, _, h.2.symm⟩)))
        go_wp2_with (at_builtin; refine wpList_append_sl (xs := ints ((R.take k).filter fun x => decide (x % z = b % z))) (ys := [[.int .i64 x]]) rfl _ _ rfl tyInts rfl rfl (Hown.out.chg (S := fun _ => False) (by repeat (first | with_reducible exact Chg.refl _ _ | with_reducible exact chg0 | with_reducible refine Chg.drewN ?_ _ | with_reducible refine Chg.drew ?_ | with_reducible refine Chg.alloc ?_ _ | with_reducible refine Chg.setCell ?_ _ _ (by first | (simp; done) | omega | (simp; omega)) | with_reducible refine Chg.setBlock ?_ _ _ (by first | (simp; done) | omega | (simp; omega)) | exact Chg.refl _ _)) (fun _ _ h => h)) (OwnSl.made (e := 3) (ob_alloc_new _ _ _ rfl) (ints_ok [x]) rfl (by simp)).slice (ints_ok [x]) (by simp; omega) ?_; intro v5 w5 ho hc5 hloc)
        have hcc : Chg (fun j => u5.ownBlock = some j) wr w5 := Chg.trans (S' := fun j => u5.ownBlock = some j) (by repeat (first | with_reducible exact Chg.refl _ _ | with_reducible exact chg0 | with_reducible refine Chg.drewN ?_ _ | with_reducible refine Chg.drew ?_ | with_reducible refine Chg.alloc ?_ _ | with_reducible refine Chg.setCell ?_ _ _ (by first | (simp; done) | omega | (simp; omega)) | with_reducible refine Chg.setBlock ?_ _ _ (by first | (simp; done) | omega | (simp; omega)) | exact Chg.refl _ _)) hc5 (fun _ _ h => h)
        refine ⟨⟨k + 1, by omega, by go_num, by rw [Ht.out, List.filter_append, List.filter_cons, if_pos (by simpa using hx), List.filter_nil, ints_append]; exact ho, ?_, below_chg Hb.out hcc (fun j hj e => by have := Hlo.out j e; omega)⟩, by simp [intOf]; omega⟩
        intro j hj
        rcases hloc with h | h
        · rw [h] at hj; exact Hlo.out j hj
        · rw [h] at hj; injection hj with hj; rw [← hj]; simp; omega
      · have hx' : (x % z == b % z) = false := by simpa using hx
        have hx'' : decide (x % z = b % z) = false := by simpa using hx
        go_wp2_with fail
        go_quiet ((go_at_call 158; exact (RefMod_calls _ z _ s1 (by omega)).mono (fun _ _ h => ⟨h.1, _, h.2.symm⟩)))
        go_wp2_with fail
        exact ⟨⟨k + 1, by omega, by go_num, by rw [Ht.out, List.filter_append, List.filter_cons, if_neg (by simpa using hx)]; simpa using Hown.out.chg (S := fun _ => False) (by repeat (first | with_reducible exact Chg.refl _ _ | with_reducible exact chg0 | with_reducible refine Chg.drewN ?_ _ | with_reducible refine Chg.drew ?_ | with_reducible refine Chg.alloc ?_ _ | with_reducible refine Chg.setCell ?_ _ _ (by first | (simp; done) | omega | (simp; omega)) | with_reducible refine Chg.setBlock ?_ _ _ (by first | (simp; done) | omega | (simp; omega)) | exact Chg.refl _ _)) (fun _ _ h => h), Hlo.out, below_trans Hb.out (Chg.below (by repeat (first | with_reducible exact Chg.refl _ _ | with_reducible exact chg0 | with_reducible refine Chg.drewN ?_ _ | with_reducible refine Chg.drew ?_ | with_reducible refine Chg.alloc ?_ _ | with_reducible refine Chg.setCell ?_ _ _ (by first | (simp; done) | omega | (simp; omega)) | with_reducible refine Chg.setBlock ?_ _ _ (by first | (simp; done) | omega | (simp; omega)) | exact Chg.refl _ _)))⟩, by simp [intOf]; omega⟩
    · go_wp2_with fail
      go_ret
      rw [List.take_of_length_le (by omega)] at Hown
      exact ⟨u5, rfl, Hown.out, Hlo.out, Hb.out⟩
end
end Go.Proofs.YtchlioikkhnidaaGreat

/-
  The document's lines: Remove, Add, Use, Victim.
-/
namespace Go.Proofs.YtchlioikkhnidaaGreat
open Go.RowKit Go.Sort
open Go.ChangeMaps (setBlock)
set_option linter.unusedVariables false
set_option linter.unusedSimpArgs false

theorem ref_put {w w3 : World} {p : Nat} {v : Value} {s s' : Lines} {F : Nat → Prop} (h : RefIn w p v s) (hF : ∀ j, j = p ∨ v.ownBlock = some j → F j) (hFl : ∀ j, F j → j < w.heap.size) (h1 : s'.sets = s.sets) (h2 : s'.ways = s.ways) (h4 : s'.Ok) (v3 : Value)
    (ho : OwnSl w3 3 1 v3 (ints s'.all)) (hc : Chg (fun j => v.ownBlock = some j) w w3) (hloc : ∀ j, v3.ownBlock = some j → v.ownBlock = some j ∨ w.heap.size ≤ j) :
    ∃ F', RefAt (w3.setCell ⟨p, 2, none⟩ v3) p s' F' ∧ Moves w (w3.setCell ⟨p, 2, none⟩ v3) F F' := by
  have lp := ob_lt h.at_
  have hp3 : ob w3 p = some (.cells #[.int .i64 s.sets, .int .i64 s.ways, v] 212 (0, 0)) := hc.ob h.at_ fun e => h.ne p e rfl
  have hc2 : Chg (fun j => j = p) w3 (w3.setCell ⟨p, 2, none⟩ v3) := (Chg.refl _ _).setCell _ _ (fun _ => rfl)
  have hs2 := hc2.size
  have hsz := hc.size
  have h3p : ∀ j, v3.ownBlock = some j → j ≠ p := by
    rintro j hj rfl
    rcases hloc j hj with e | e
    · exact h.ne j e rfl
    · omega
  refine ⟨fun j => F j ∨ (w.heap.size ≤ j ∧ j < w3.heap.size), ⟨v3, ⟨?_, ho.chg hc2 h3p, h4⟩, ?_, ?_⟩, ⟨?_, fun j hj => hj.imp id And.left⟩⟩
  · rw [ob_setCell_same, hp3, h1, h2]; rfl
  · rintro j (rfl | hj)
    · exact .inl (hF _ (.inl rfl))
    · rcases hloc j hj with e | e
      · exact .inl (hF _ (.inr e))
      · exact .inr ⟨e, ho.lt hj⟩
  · rintro j (hj | hj)
    · have := hFl j hj; omega
    · omega
  · exact (hc.mono (S' := F) fun j _ e => hF j (.inr e)).trans hc2 fun j _ e => hF j (.inl e)

section
variable {w : World} {p : Nat} {s : Lines} {F : Nat → Prop}

set_option maxHeartbeats 1000000 in
set_option maxRecDepth 20000 in
theorem RefRemove_calls (b : Int) (h : RefAt w p s F) (hl : s.all.length ≤ 100000) :
    Calls Tryz.prog 140 #[.pointer (some ⟨p, 0, none⟩), .int .i64 b] w fun e w' => e = .returned (.bool (s.has b)) ∧ ∃ F', RefAt w' p (s.rem b) F' ∧ Moves w w' F F' := by
  obtain ⟨v, h, hF, hFl⟩ := h
  have c2 : w.cell? ⟨p, 2, none⟩ = some v := cell_ob h.at_ _
  have f2 : w.frozen? ⟨p, 2, none⟩ = false := frozen_ob h.at_ _
  have lp := ob_lt h.at_
  have H := Lib.hid h
  have HF := Lib.hid hF
  have HFl := Lib.hid hFl
  have hpos := idxOf_at b s.all
  have Hs := Lib.hid h.all.slice
  obtain ⟨A, cap, hv, hA1, hA2, hA3⟩ := sliceInts h.all.slice
  have HA := Lib.hid hA3
  clear h hF hFl hA3
  cases hh : s.has b with
  | false =>
    have hn : ¬ b ∈ s.all := fun hm => by rw [(s.has_iff b).2 hm] at hh; cases hh
    have hpo : posOf s.all b = -1 := by unfold posOf; rw [hpos, if_neg hn]
    rw [s.rem_none b hh]
    clear hpos hn
    go_enter Tryz.func140, Tryz.ntmps140
    go_wp2_with (go_at_call 142; refine (find_calls b H.out).mono ?_; rintro e w1 ⟨rfl, n1, rfl⟩; rw [hpo])
    go_ret
    exact ⟨rfl, F, RefAt.chg (S := fun _ => False) ⟨v, H.out, HF.out, HFl.out⟩ (by repeat (first | with_reducible exact Chg.refl _ _ | with_reducible exact chg0 | with_reducible refine Chg.drewN ?_ _ | with_reducible refine Chg.drew ?_ | with_reducible refine Chg.alloc ?_ _ | with_reducible refine Chg.setCell ?_ _ _ (by first | (simp; done) | omega | (simp; omega)) | with_reducible refine Chg.setBlock ?_ _ _ (by first | (simp; done) | omega | (simp; omega)) | exact Chg.refl _ _)) (fun _ _ h => h), Moves.none (by repeat (first | with_reducible exact Chg.refl _ _ | with_reducible exact chg0 | with_reducible refine Chg.drewN ?_ _ | with_reducible refine Chg.drew ?_ | with_reducible refine Chg.alloc ?_ _ | with_reducible refine Chg.setCell ?_ _ _ (by first | (simp; done) | omega | (simp; omega)) | with_reducible refine Chg.setBlock ?_ _ _ (by first | (simp; done) | omega | (simp; omega)) | exact Chg.refl _ _))⟩
  | true =>
    have hy : b ∈ s.all := (s.has_iff b).1 hh
    have hi := List.idxOf_lt_length_of_mem hy
    obtain ⟨i, ei⟩ : ∃ i, i = s.all.idxOf b := ⟨_, rfl⟩
    have hpo : posOf s.all b = (i : Int) := by unfold posOf; rw [hpos, if_pos hy, ei]
    have her : s.all.eraseIdx i = s.all.erase b := by rw [ei]; exact eraseIdx_at b _ hy
    rw [← ei] at hi
    clear hpos ei
    have hil : (i : Int) < (s.all.length : Int) := by omega
    have Her := Lib.hid her
    clear her
    go_enter Tryz.func140, Tryz.ntmps140
    go_wp2_with (go_at_call 142; refine (find_calls b H.out).mono ?_; rintro e w1 ⟨rfl, n1, rfl⟩; rw [hpo])
    have hic : i ≤ cap := by omega
    have hi1 : i + 1 ≤ cap := by omega
    have hwr : IntKind.i64.wrap ((i : Int) + 1) = (i : Int) + 1 := by rw [IntKind.wrap_i64]; omega
    have h0i : (0 : Int) ≤ (i : Int) + 1 := by omega
    have hti : ((i : Int) + 1).toNat = i + 1 := by omega
    have hil2 : (i : Int) + 1 ≤ (s.all.length : Int) := by omega
    have hil3 : i + 1 ≤ s.all.length := by omega
    have hTo : ∀ W, Chg (fun _ => False) w W → SliceIs W 1 (.slice A i cap) (ints (s.all.take i)) := fun W hW => ints_to (by rw [← hv]; exact Hs.out.below hW.below) i (by omega)
    have hFrom : ∀ W, Chg (fun _ => False) w W → SliceIs W 1 (.slice (if cap = i + 1 then A else A.map (fun x => x.add (i + 1))) (s.all.length - (i + 1)) (cap - (i + 1))) (ints (s.all.drop (i + 1))) := fun W hW => ints_from (by rw [← hv]; exact Hs.out.below hW.below) (i + 1) hil3 (fun hlt b off e => by rw [if_neg (by omega), e]; rfl)
    have HTo := Lib.hid hTo
    have HFrom := Lib.hid hFrom
    clear hTo hFrom
    go_region_law (first
      | (refine step_append_sl (v := .slice (some ⟨w.heap.size, 0, none⟩) 0 0) (xs := []) (ys := ints (s.all.take i)) rfl _ _ rfl tyInts rfl rfl (OwnSl.made (c := #[]) (e := 3) (b := w.heap.size) (by rw [ob_drewN]; exact ob_alloc_at _ _) RowsOk.nil rfl (by decide)) (HTo.out _ (by repeat (first | with_reducible exact Chg.refl _ _ | with_reducible exact chg0 | with_reducible refine Chg.drewN ?_ _ | with_reducible refine Chg.drew ?_ | with_reducible refine Chg.alloc ?_ _ | with_reducible refine Chg.setCell ?_ _ _ (by first | (simp; done) | omega | (simp; omega)) | with_reducible refine Chg.setBlock ?_ _ _ (by first | (simp; done) | omega | (simp; omega)) | exact Chg.refl _ _))) (ints_ok _) (by simp; omega) ?_; intro v2 w2 ho2 hc2 hloc2; have hw2 : Chg (fun _ => False) w w2 := Chg.trans (S' := fun j => j = w.heap.size) (by repeat (first | with_reducible exact Chg.refl _ _ | with_reducible exact chg0 | with_reducible refine Chg.drewN ?_ _ | with_reducible refine Chg.drew ?_ | with_reducible refine Chg.alloc ?_ _ | with_reducible refine Chg.setCell ?_ _ _ (by first | (simp; done) | omega | (simp; omega)) | with_reducible refine Chg.setBlock ?_ _ _ (by first | (simp; done) | omega | (simp; omega)) | exact Chg.refl _ _)) (hc2.mono (fun j _ e => (Option.some.inj e).symm)) (fun j hj e => by omega); have c2' : w2.cell? ⟨p, 2, none⟩ = some (.slice A s.all.length cap) := hw2.cell (by rw [← hv]; exact c2) (fun h => h))
      | (refine step_append_sl (v := v2) (xs := ints (s.all.take i)) (ys := ints (s.all.drop (i + 1))) rfl _ _ rfl tyInts rfl rfl ho2 (HFrom.out _ hw2) (ints_ok _) (by simp; omega) ?_; intro v3 w3 ho3 hc3 hloc3; obtain ⟨A3, n3, cap3, hv3⟩ := ho3.shape; subst hv3; have hw3 : Chg (fun _ => False) w w3 := hw2.trans hc3 (fun j hj e => absurd (show w.heap.size ≤ j from fresh_of hloc2 (fun k hk => Nat.le_of_eq (Option.some.inj hk)) (by simp) e) (by omega)); have c2'' : w3.cell? ⟨p, 2, none⟩ = some (.slice A s.all.length cap) := hw3.cell (by rw [← hv]; exact c2) (fun h => h); have f2'' : w3.frozen? ⟨p, 2, none⟩ = false := by rw [hw3.frozen lp (fun h => h)]; exact f2))
    all_goals (go_wp2_with fail)
    all_goals
      go_ret
      rw [← ints_append, ← List.eraseIdx_eq_take_drop_succ, Her.out] at ho3
      exact ⟨rfl, ref_put H.out HF.out HFl.out (s' := s.rem b) rfl rfl (Lines.rem_ok H.out.ok b) _ ho3 (hw3.mono fun _ _ h => h.elim) (fun j hj => .inr (fresh_of hloc3 (fun k hk => fresh_of hloc2 (fun k hk => Nat.le_of_eq (Option.some.inj hk)) (by simp) hk) hw2.size hj))⟩

/-- With what s.all holds behind it: b. -/
theorem snoc_all (s : Lines) (b : Int) : ({ s with all := s.all ++ [b] } : Lines).all = s.all ++ [b] := rfl

theorem RefUse_calls (b : Int) (h : RefAt w p s F) (hl : s.all.length ≤ 100000) :
    Calls Tryz.prog 108 #[.pointer (some ⟨p, 0, none⟩), .int .i64 b] w fun e w' => e = .returned (.bool (s.has b)) ∧ ∃ F', RefAt w' p (s.use b) F' ∧ Moves w w' F F' := by
  have hu : s.use b = if s.has b then { s with all := s.all.erase b ++ [b] } else s := rfl
  have huo := Lib.hid (Lines.use_ok h.ok b)
  have H := Lib.hid h
  clear h
  cases hh : s.has b with
  | false =>
    rw [hh, if_neg (by decide)] at hu
    have hr := s.rem_none b hh
    go_enter Tryz.func108, Tryz.ntmps108
    go_wp2_with (go_at_call 140; refine (RefRemove_calls b H.out hl).mono ?_; rintro e w1 ⟨rfl, F1, h1, m1⟩; rw [hh])
    go_ret
    exact ⟨rfl, F1, by rw [hu, ← hr]; exact h1, m1⟩
  | true =>
    rw [hh, if_pos rfl] at hu
    rw [hu] at huo ⊢
    go_enter Tryz.func108, Tryz.ntmps108
    go_wp2_with fail
    refine (RefRemove_calls b H.out hl).mono ?_
    rintro e w1 ⟨rfl, F1, h1, m1⟩
    rw [hh]
    obtain ⟨v1, h1, hF1, hFl1⟩ := h1
    have c2 : w1.cell? ⟨p, 2, none⟩ = some v1 := cell_ob h1.at_ _
    have f2 : w1.frozen? ⟨p, 2, none⟩ = false := frozen_ob h1.at_ _
    have lp := ob_lt h1.at_
    have hle : (s.all.erase b).length ≤ 100000 := Nat.le_trans ((s.all.erase_sublist (a := b)).length_le) hl
    have H1 := Lib.hid h1
    have HF1 := Lib.hid hF1
    have HFl1 := Lib.hid hFl1
    clear h1 hF1 hFl1 hu
    have hne := H1.out.ne
    go_wp2_with (at_builtin; refine wpList_append_sl (v := v1) (xs := ints (s.all.erase b)) (ys := [[.int .i64 b]]) rfl _ _ rfl tyInts rfl rfl (H1.out.all.chg (S := fun _ => False) (by repeat (first | with_reducible exact Chg.refl _ _ | with_reducible exact chg0 | with_reducible refine Chg.drewN ?_ _ | with_reducible refine Chg.drew ?_ | with_reducible refine Chg.alloc ?_ _ | with_reducible refine Chg.setCell ?_ _ _ (by first | (simp; done) | omega | (simp; omega)) | with_reducible refine Chg.setBlock ?_ _ _ (by first | (simp; done) | omega | (simp; omega)) | exact Chg.refl _ _)) (fun _ _ h => h)) (OwnSl.made (e := 3) (ob_alloc_new _ _ _ rfl) (ints_ok [b]) rfl (by simp)).slice (ints_ok [b]) (by simp; omega) ?_; intro v3 w3 ho3 hc3 hloc3; obtain ⟨A3, n3, cap3, hv3⟩ := ho3.shape; subst hv3; have hw3 : Chg (fun j => v1.ownBlock = some j) w1 w3 := Chg.trans (S' := fun j => v1.ownBlock = some j) (by repeat (first | with_reducible exact Chg.refl _ _ | with_reducible exact chg0 | with_reducible refine Chg.drewN ?_ _ | with_reducible refine Chg.drew ?_ | with_reducible refine Chg.alloc ?_ _ | with_reducible refine Chg.setCell ?_ _ _ (by first | (simp; done) | omega | (simp; omega)) | with_reducible refine Chg.setBlock ?_ _ _ (by first | (simp; done) | omega | (simp; omega)) | exact Chg.refl _ _)) hc3 (fun _ _ h => h); have c2'' : w3.cell? ⟨p, 2, none⟩ = some v1 := hw3.cell c2 (fun e => hne p e rfl); have f2'' : w3.frozen? ⟨p, 2, none⟩ = false := by rw [hw3.frozen lp (fun e => hne p e rfl)]; exact f2)
    all_goals
      go_ret
      have ho5 : OwnSl w3 3 1 (.slice A3 n3 cap3) (ints (s.all.erase b ++ [b])) := by rw [ints_append]; exact ho3
      obtain ⟨F2, h2, m2⟩ := ref_put H1.out HF1.out HFl1.out (s' := { s with all := s.all.erase b ++ [b] }) rfl rfl huo.out _ ho5 hw3 (fun j hj => by
        rcases hloc3 with h | h
        · rw [h] at hj; exact .inl hj
        · rw [h] at hj; injection hj with hj; right; rw [← hj]; simp)
      exact ⟨rfl, F2, h2, m1.trans m2⟩
end
end Go.Proofs.YtchlioikkhnidaaGreat

/-
  The document's lines: Add, Victim.
-/
namespace Go.Proofs.YtchlioikkhnidaaGreat
open Go.RowKit Go.Sort
open Go.ChangeMaps (setBlock)
set_option linter.unusedVariables false
set_option linter.unusedSimpArgs false

section
variable {w : World} {p : Nat} {s : Lines} {F : Nat → Prop}

set_option maxHeartbeats 1000000 in
set_option maxRecDepth 20000 in
theorem RefAdd_calls (b : Int) (h : RefAt w p s F) (hl : s.all.length ≤ 100000) :
    Calls Tryz.prog 113 #[.pointer (some ⟨p, 0, none⟩), .int .i64 b] w fun e w' => e = .returned (.bool (s.can b)) ∧ ∃ F', RefAt w' p (s.add b) F' ∧ Moves w w' F F' := by
  obtain ⟨v, h, hF, hFl⟩ := h
  have c1 : w.cell? ⟨p, 1, none⟩ = some (.int .i64 s.ways) := cell_ob h.at_ _
  have c2 : w.cell? ⟨p, 2, none⟩ = some v := cell_ob h.at_ _
  have f2 : w.frozen? ⟨p, 2, none⟩ = false := frozen_ob h.at_ _
  have lp := ob_lt h.at_
  have H := Lib.hid h
  have HF := Lib.hid hF
  have HFl := Lib.hid hFl
  have no : s.can b = false → ∀ w1, Chg (fun _ => False) w w1 → (Ending.returned (.bool false) = .returned (.bool (s.can b))) ∧ ∃ F', RefAt w1 p (s.add b) F' ∧ Moves w w1 F F' := fun hc w1 h1 =>
    ⟨by rw [hc], F, by rw [Lines.add, hc]; exact RefAt.chg ⟨v, H.out, HF.out, HFl.out⟩ h1 (fun _ _ h => h), Moves.none h1⟩
  have No := Lib.hid no
  have hcan : s.can b = (!(decide (b < 0) || s.has b || decide (s.ways ≤ ((s.mates b).length : Int)))) := rfl
  obtain ⟨A, cap, hv, hA1, hA2, hA3⟩ := sliceInts h.all.slice
  clear h hF hFl no hA3
  have hl' : s.all.length ≤ 1000000 := by omega
  by_cases q1 : b < 0
  · have hno : s.can b = false := by rw [hcan]; simp [q1]
    have q1' : decide (b < 0) = true := by simpa using q1
    clear hcan
    go_enter Tryz.func113, Tryz.ntmps113
    go_wp2_with fail
    go_region
    all_goals (go_wp2_with fail)
    all_goals
      go_ret
      exact No.out hno _ (by repeat (first | with_reducible exact Chg.refl _ _ | with_reducible exact chg0 | with_reducible refine Chg.drewN ?_ _ | with_reducible refine Chg.drew ?_ | with_reducible refine Chg.alloc ?_ _ | with_reducible refine Chg.setCell ?_ _ _ (by first | (simp; done) | omega | (simp; omega)) | with_reducible refine Chg.setBlock ?_ _ _ (by first | (simp; done) | omega | (simp; omega)) | exact Chg.refl _ _))
  have q1' : decide (b < 0) = false := by simpa using q1
  cases hh : s.has b with
  | true =>
    have hno : s.can b = false := by rw [hcan, hh]; simp
    clear hcan
    go_enter Tryz.func113, Tryz.ntmps113
    go_wp2_with fail
    have hhas : ∀ W, Chg (fun _ => False) w W → Calls Tryz.prog 112 #[.pointer (some ⟨p, 0, none⟩), .int .i64 b] W fun e w' => e = .returned (.bool true) ∧ ∃ n, w' = W.drewN n := fun W hW => by rw [← hh]; exact RefHas_in b (H.out.same hW)
    go_quiet ((go_at_call 112; refine Calls.quiet_of (hhas _ ?_); exact (by repeat (first | with_reducible exact Chg.refl _ _ | with_reducible exact chg0 | with_reducible refine Chg.drewN ?_ _ | with_reducible refine Chg.drew ?_ | with_reducible refine Chg.alloc ?_ _ | with_reducible refine Chg.setCell ?_ _ _ (by first | (simp; done) | omega | (simp; omega)) | with_reducible refine Chg.setBlock ?_ _ _ (by first | (simp; done) | omega | (simp; omega)) | exact Chg.refl _ _))))
    all_goals (go_wp2_with fail)
    all_goals
      go_ret
      exact No.out hno _ (by repeat (first | with_reducible exact Chg.refl _ _ | with_reducible exact chg0 | with_reducible refine Chg.drewN ?_ _ | with_reducible refine Chg.drew ?_ | with_reducible refine Chg.alloc ?_ _ | with_reducible refine Chg.setCell ?_ _ _ (by first | (simp; done) | omega | (simp; omega)) | with_reducible refine Chg.setBlock ?_ _ _ (by first | (simp; done) | omega | (simp; omega)) | exact Chg.refl _ _))
  | false =>
    by_cases q3 : s.ways ≤ ((s.mates b).length : Int)
    · have hno : s.can b = false := by rw [hcan]; simp [q3]
      have q3' : decide (s.ways ≤ ((s.mates b).length : Int)) = true := by simpa using q3
      clear hcan
      go_enter Tryz.func113, Tryz.ntmps113
      go_wp2_with fail
      go_region_law (first
        | (go_simp; go_at_call 112; refine (RefHas_in b (H.out.same (by repeat (first | with_reducible exact Chg.refl _ _ | with_reducible exact chg0 | with_reducible refine Chg.drewN ?_ _ | with_reducible refine Chg.drew ?_ | with_reducible refine Chg.alloc ?_ _ | with_reducible refine Chg.setCell ?_ _ _ (by first | (simp; done) | omega | (simp; omega)) | with_reducible refine Chg.setBlock ?_ _ _ (by first | (simp; done) | omega | (simp; omega)) | exact Chg.refl _ _)))).mono ?_; rintro e w1 ⟨rfl, n2, rfl⟩; rw [hh])
        | (go_simp; go_at_call 141; refine (mates_calls b (H.out.same (by repeat (first | with_reducible exact Chg.refl _ _ | with_reducible exact chg0 | with_reducible refine Chg.drewN ?_ _ | with_reducible refine Chg.drew ?_ | with_reducible refine Chg.alloc ?_ _ | with_reducible refine Chg.setCell ?_ _ _ (by first | (simp; done) | omega | (simp; omega)) | with_reducible refine Chg.setBlock ?_ _ _ (by first | (simp; done) | omega | (simp; omega)) | exact Chg.refl _ _))) (by omega)).mono ?_; rintro e w2 ⟨u2, rfl, hm2, _, hb2⟩; obtain ⟨A2, cap2, hu2⟩ := hm2.form; rw [ints_length] at hu2; subst hu2; have hw2 : Chg (fun _ => False) w w2 := Chg.of_below (below_trans (Chg.below (by repeat (first | with_reducible exact Chg.refl _ _ | with_reducible exact chg0 | with_reducible refine Chg.drewN ?_ _ | with_reducible refine Chg.drew ?_ | with_reducible refine Chg.alloc ?_ _ | with_reducible refine Chg.setCell ?_ _ _ (by first | (simp; done) | omega | (simp; omega)) | with_reducible refine Chg.setBlock ?_ _ _ (by first | (simp; done) | omega | (simp; omega)) | exact Chg.refl _ _))) hb2); have c1' : w2.cell? ⟨p, 1, none⟩ = some (.int .i64 s.ways) := hw2.cell c1 (fun h => h)))
      all_goals (go_wp2_with fail)
      all_goals
        go_ret
        exact No.out hno _ hw2
    have q3' : decide (s.ways ≤ ((s.mates b).length : Int)) = false := by simpa using q3
    have hyes : s.can b = true := by rw [hcan, hh, q1', q3']; rfl
    have Yes := Lib.hid hyes
    clear hcan hyes
    go_enter Tryz.func113, Tryz.ntmps113
    go_wp2_with fail
    go_region_law (first
      | (go_simp; go_at_call 112; refine (RefHas_in b (H.out.same (by repeat (first | with_reducible exact Chg.refl _ _ | with_reducible exact chg0 | with_reducible refine Chg.drewN ?_ _ | with_reducible refine Chg.drew ?_ | with_reducible refine Chg.alloc ?_ _ | with_reducible refine Chg.setCell ?_ _ _ (by first | (simp; done) | omega | (simp; omega)) | with_reducible refine Chg.setBlock ?_ _ _ (by first | (simp; done) | omega | (simp; omega)) | exact Chg.refl _ _)))).mono ?_; rintro e w1 ⟨rfl, n2, rfl⟩; rw [hh])
      | (go_simp; go_at_call 141; refine (mates_calls b (H.out.same (by repeat (first | with_reducible exact Chg.refl _ _ | with_reducible exact chg0 | with_reducible refine Chg.drewN ?_ _ | with_reducible refine Chg.drew ?_ | with_reducible refine Chg.alloc ?_ _ | with_reducible refine Chg.setCell ?_ _ _ (by first | (simp; done) | omega | (simp; omega)) | with_reducible refine Chg.setBlock ?_ _ _ (by first | (simp; done) | omega | (simp; omega)) | exact Chg.refl _ _))) (by omega)).mono ?_; rintro e w2 ⟨u2, rfl, hm2, _, hb2⟩; obtain ⟨A2, cap2, hu2⟩ := hm2.form; rw [ints_length] at hu2; subst hu2; have hw2 : Chg (fun _ => False) w w2 := Chg.of_below (below_trans (Chg.below (by repeat (first | with_reducible exact Chg.refl _ _ | with_reducible exact chg0 | with_reducible refine Chg.drewN ?_ _ | with_reducible refine Chg.drew ?_ | with_reducible refine Chg.alloc ?_ _ | with_reducible refine Chg.setCell ?_ _ _ (by first | (simp; done) | omega | (simp; omega)) | with_reducible refine Chg.setBlock ?_ _ _ (by first | (simp; done) | omega | (simp; omega)) | exact Chg.refl _ _))) hb2); have c1' : w2.cell? ⟨p, 1, none⟩ = some (.int .i64 s.ways) := hw2.cell c1 (fun h => h)))
    all_goals
      have tok1 : True := trivial
      have c2' : w2.cell? ⟨p, 2, none⟩ = some v := hw2.cell c2 (fun h => h)
      have f2' : w2.frozen? ⟨p, 2, none⟩ = false := by rw [hw2.frozen lp (fun h => h)]; exact f2
      have lp2 : p < w2.heap.size := Nat.lt_of_lt_of_le lp hw2.size
      have Hs2 := Lib.hid ((H.out.same hw2).all.slice)
      subst hv
    all_goals
      go_wp2_with (first
        | (at_builtin; have _t := tok1; refine wpList_append_sl (v := .slice (some ⟨w2.heap.size, 0, none⟩) 0 0) (x := .slice A s.all.length cap) (xs := []) (ys := ints s.all) rfl _ _ rfl tyInts rfl rfl (OwnSl.made (c := #[]) (e := 3) (b := w2.heap.size) (ob_alloc_at _ _) RowsOk.nil rfl (by decide)) (Hs2.out.below (Chg.below (by repeat (first | with_reducible exact Chg.refl _ _ | with_reducible exact chg0 | with_reducible refine Chg.drewN ?_ _ | with_reducible refine Chg.drew ?_ | with_reducible refine Chg.alloc ?_ _ | with_reducible refine Chg.setCell ?_ _ _ (by first | (simp; done) | omega | (simp; omega)) | with_reducible refine Chg.setBlock ?_ _ _ (by first | (simp; done) | omega | (simp; omega)) | exact Chg.refl _ _)))) (ints_ok _) (by simp; omega) ?_; intro v3 w3 ho3 hc3 hloc3; clear tok1; have hw3 : Chg (fun _ => False) w2 w3 := Chg.trans (S' := fun j => j = w2.heap.size) (by repeat (first | with_reducible exact Chg.refl _ _ | with_reducible exact chg0 | with_reducible refine Chg.drewN ?_ _ | with_reducible refine Chg.drew ?_ | with_reducible refine Chg.alloc ?_ _ | with_reducible refine Chg.setCell ?_ _ _ (by first | (simp; done) | omega | (simp; omega)) | with_reducible refine Chg.setBlock ?_ _ _ (by first | (simp; done) | omega | (simp; omega)) | exact Chg.refl _ _)) (hc3.mono (fun j _ e => (Option.some.inj e).symm)) (fun j hj e => by omega))
        | (at_builtin; refine wpList_append_sl (v := v3) (xs := ints s.all) (ys := [[.int .i64 b]]) rfl _ _ rfl tyInts rfl rfl (ho3.chg (S := fun _ => False) (by repeat (first | with_reducible exact Chg.refl _ _ | with_reducible exact chg0 | with_reducible refine Chg.drewN ?_ _ | with_reducible refine Chg.drew ?_ | with_reducible refine Chg.alloc ?_ _ | with_reducible refine Chg.setCell ?_ _ _ (by first | (simp; done) | omega | (simp; omega)) | with_reducible refine Chg.setBlock ?_ _ _ (by first | (simp; done) | omega | (simp; omega)) | exact Chg.refl _ _)) (fun _ _ h => h)) (OwnSl.made (e := 3) (ob_alloc_new _ _ _ rfl) (ints_ok [b]) rfl (by simp)).slice (ints_ok [b]) (by simp; omega) ?_; intro v4 w4 ho4 hc4 hloc4; obtain ⟨A4, n4, cap4, hv4⟩ := ho4.shape; subst hv4; have hw4 : Chg (fun _ => False) w w4 := (hw2.trans (hw3.trans (S' := fun j => v3.ownBlock = some j) (Chg.trans (S' := fun j => v3.ownBlock = some j) (by repeat (first | with_reducible exact Chg.refl _ _ | with_reducible exact chg0 | with_reducible refine Chg.drewN ?_ _ | with_reducible refine Chg.drew ?_ | with_reducible refine Chg.alloc ?_ _ | with_reducible refine Chg.setCell ?_ _ _ (by first | (simp; done) | omega | (simp; omega)) | with_reducible refine Chg.setBlock ?_ _ _ (by first | (simp; done) | omega | (simp; omega)) | exact Chg.refl _ _)) hc4 (fun _ _ h => h)) (fun j hj e => absurd (show w2.heap.size ≤ j from fresh_of hloc3 (fun k hk => Nat.le_of_eq (Option.some.inj hk)) (by simp) e) (by omega))) (fun _ _ h => h)); have c2'' : w4.cell? ⟨p, 2, none⟩ = some (.slice A s.all.length cap) := hw4.cell c2 (fun h => h); have f2'' : w4.frozen? ⟨p, 2, none⟩ = false := by rw [hw4.frozen lp (fun h => h)]; exact f2))
    all_goals
      go_ret
      have ho5 : OwnSl w4 3 1 (.slice A4 n4 cap4) (ints (s.all ++ [b])) := by rw [ints_append]; exact ho4
      refine ⟨retb Yes.out.symm, ref_put H.out HF.out HFl.out (s' := s.add b) ?_ ?_ (Lines.add_ok H.out.ok b) _ ?_ (hw4.mono fun _ _ h => h.elim) (fun j hj => .inr ?_)⟩
      · rw [Lines.add, if_pos Yes.out]
      · rw [Lines.add, if_pos Yes.out]
      · rw [Lines.add, if_pos Yes.out]; exact ho5
      · refine Nat.le_trans hw2.size (fresh_of hloc4 (fun k hk => fresh_of hloc3 (fun k hk => Nat.le_of_eq (Option.some.inj hk)) (by simp) hk) ?_ hj)
        have := hw3.size
        simp; omega
end
end Go.Proofs.YtchlioikkhnidaaGreat

/-
  The document's lines: Victim, Copy; two lists.
-/
namespace Go.Proofs.YtchlioikkhnidaaGreat
open Go.RowKit Go.Sort
open Go.ChangeMaps (setBlock)
set_option linter.unusedVariables false
set_option linter.unusedSimpArgs false

theorem ints_at {w w' : World} {l : List Int} {v : Value} (h : SliceIs w 1 v (ints l)) (hb : Below w.heap.size w w') : ∃ A cap, v = .slice A l.length cap ∧ l.length ≤ cap ∧ l.length ≤ 9223372036854775807 ∧
    ∀ k, k < l.length → ∃ b off, A = some ⟨b, off, none⟩ ∧ w'.cell? ⟨b, off + k, none⟩ = some (.int .i64 (l.getD k 0)) := by
  obtain ⟨A, cap, rfl, h1, h2, h3⟩ := sliceInts (h.below hb)
  refine ⟨A, cap, rfl, h1, h2, fun k hk => ?_⟩
  obtain ⟨b, off, e, hc⟩ := h3 (by omega)
  exact ⟨b, off, e, hc k hk⟩


section
variable {w : World} {p : Nat} {s : Lines} {F : Nat → Prop}

set_option maxHeartbeats 1000000 in
set_option maxRecDepth 20000 in
theorem RefVictim_calls (b pinned : Int) (h : RefAt w p s F) (hl : s.all.length ≤ 100000) :
    Calls Tryz.prog 111 #[.pointer (some ⟨p, 0, none⟩), .int .i64 b, .int .i64 pinned] w fun e w' => e = .returned (.tuple #[.int .i64 (s.victim b pinned).1, .bool (s.victim b pinned).2]) ∧ Below w.heap.size w w' := by
  obtain ⟨v, h, _⟩ := h
  have c1 : w.cell? ⟨p, 1, none⟩ = some (.int .i64 s.ways) := cell_ob h.at_ _
  have lp := ob_lt h.at_
  have H := Lib.hid h
  have hv : s.victim b pinned = if b < 0 then (-1, false) else if s.has b || decide (((s.mates b).length : Int) < s.ways) then (-1, true) else firstNot pinned (s.mates b) := rfl
  clear h
  have hl' : s.all.length ≤ 1000000 := by omega
  go_enter Tryz.func111, Tryz.ntmps111
  go_wp2_with fail
  refine (mates_calls b H.out hl').mono ?_
  rintro e w2 ⟨u2, rfl, hm2, _, hb2⟩
  have hw2 : Chg (fun _ => False) w w2 := Chg.of_below hb2
  have c1' : w2.cell? ⟨p, 1, none⟩ = some (.int .i64 s.ways) := hw2.cell c1 (fun h => h)
  have H2 := Lib.hid (H.out.same hw2)
  obtain ⟨A, cap, rfl, r1, r2, r3⟩ := ints_at hm2.slice (Chg.below (Chg.refl _ _))
  have R3 := Lib.hid r3
  have B2 := Lib.hid hb2
  clear hm2 r3 hb2 hw2 c1
  by_cases q1 : b < 0
  · rw [if_pos q1] at hv
    go_wp2_with fail
    go_ret2
    rw [hv]
    exact ⟨rfl, B2.out⟩
  have q1' : decide (b < 0) = false := by simpa using q1
  rw [if_neg q1] at hv
  generalize s.mates b = R at *
  cases hh : s.has b with
  | true =>
    rw [hh] at hv
    simp only [Bool.true_or, if_true] at hv
    go_wp2_with (go_at_call 112; refine (RefHas_in b H2.out).mono ?_; rintro e w1 ⟨rfl, n2, rfl⟩; rw [hh])
    go_ret2
    rw [hv]
    exact ⟨rfl, below_trans B2.out (Chg.below (by repeat (first | with_reducible exact Chg.refl _ _ | with_reducible exact chg0 | with_reducible refine Chg.drewN ?_ _ | with_reducible refine Chg.drew ?_ | with_reducible refine Chg.alloc ?_ _ | with_reducible refine Chg.setCell ?_ _ _ (by first | (simp; done) | omega | (simp; omega)) | with_reducible refine Chg.setBlock ?_ _ _ (by first | (simp; done) | omega | (simp; omega)) | exact Chg.refl _ _)))⟩
  | false =>
    rw [hh] at hv
    simp only [Bool.false_or] at hv
    by_cases q3 : (R.length : Int) < s.ways
    · have q3' : decide ((R.length : Int) < s.ways) = true := by simpa using q3
      rw [q3', if_pos rfl] at hv
      go_wp2_with (go_at_call 112; refine (RefHas_in b H2.out).mono ?_; rintro e w1 ⟨rfl, n2, rfl⟩; rw [hh])
      go_ret2
      rw [hv]
      exact ⟨rfl, below_trans B2.out (Chg.below (by repeat (first | with_reducible exact Chg.refl _ _ | with_reducible exact chg0 | with_reducible refine Chg.drewN ?_ _ | with_reducible refine Chg.drew ?_ | with_reducible refine Chg.alloc ?_ _ | with_reducible refine Chg.setCell ?_ _ _ (by first | (simp; done) | omega | (simp; omega)) | with_reducible refine Chg.setBlock ?_ _ _ (by first | (simp; done) | omega | (simp; omega)) | exact Chg.refl _ _)))⟩
    have q3' : decide ((R.length : Int) < s.ways) = false := by simpa using q3
    rw [q3', if_neg (by decide)] at hv
    go_wp2_with (go_at_call 112; refine (RefHas_in b H2.out).mono ?_; rintro e w1 ⟨rfl, n2, rfl⟩; rw [hh])
    have Hv := Lib.hid hv
    clear hv
    go_loop [9] (fun i => ∃ k : Nat, k ≤ R.length ∧ i = .int .i64 k ∧ firstNot pinned R = firstNot pinned (R.drop k)) (fun i => R.length - (intOf i).toNat)
    case atStart => exact ⟨0, Nat.zero_le _, rfl, rfl⟩
    case round =>
      obtain ⟨k, hk, rfl, hf⟩ := hrel
      have Hf := Lib.hid hf
      clear hf
      by_cases hlt : k < R.length
      · obtain ⟨q, off, rfl, hck⟩ := R3.out k hlt
        have hck' : (w2.drewN n2).cell? ⟨q, off + k, none⟩ = some (.int .i64 (R.getD k 0)) := hck
        have hd : R.drop k = R.getD k 0 :: R.drop (k + 1) := by rw [List.drop_eq_getElem_cons hlt]; simp [List.getD, hlt]
        have Hd := Lib.hid hd
        clear hd
        generalize R.getD k 0 = x at *
        by_cases hx : x = pinned
        · have hx' : (x != pinned) = false := by simpa using hx
          go_wp2_with fail
          exact ⟨⟨k + 1, by omega, by go_num, by rw [Hf.out, Hd.out, firstNot, if_pos hx]⟩, by simp [intOf]; omega⟩
        · have hx' : (x != pinned) = true := by simpa using hx
          go_wp2_with fail
          go_ret2
          rw [Hv.out, Hf.out, Hd.out, firstNot, if_neg hx]
          exact ⟨rfl, below_trans B2.out (Chg.below (by repeat (first | with_reducible exact Chg.refl _ _ | with_reducible exact chg0 | with_reducible refine Chg.drewN ?_ _ | with_reducible refine Chg.drew ?_ | with_reducible refine Chg.alloc ?_ _ | with_reducible refine Chg.setCell ?_ _ _ (by first | (simp; done) | omega | (simp; omega)) | with_reducible refine Chg.setBlock ?_ _ _ (by first | (simp; done) | omega | (simp; omega)) | exact Chg.refl _ _)))⟩
      · go_wp2_with fail
        go_ret2
        rw [Hv.out, Hf.out, List.drop_of_length_le (by omega)]
        exact ⟨rfl, below_trans B2.out (Chg.below (by repeat (first | with_reducible exact Chg.refl _ _ | with_reducible exact chg0 | with_reducible refine Chg.drewN ?_ _ | with_reducible refine Chg.drew ?_ | with_reducible refine Chg.alloc ?_ _ | with_reducible refine Chg.setCell ?_ _ _ (by first | (simp; done) | omega | (simp; omega)) | with_reducible refine Chg.setBlock ?_ _ _ (by first | (simp; done) | omega | (simp; omega)) | exact Chg.refl _ _)))⟩
end
end Go.Proofs.YtchlioikkhnidaaGreat

/-
  The document's lines: List, Copy.
-/
namespace Go.Proofs.YtchlioikkhnidaaGreat
open Go.RowKit Go.Sort
open Go.ChangeMaps (setBlock)
set_option linter.unusedVariables false
set_option linter.unusedSimpArgs false

section
variable {w : World} {p : Nat} {s : Lines} {F : Nat → Prop}

theorem ins_sorted {O : List Int} {x : Int} {k : Nat} (hs : List.Pairwise (fun a b => a ≤ b) O) (h1 : ∀ j, j < k → j < O.length → O.getD j 0 < x) (h2 : k = O.length ∨ x ≤ O.getD k 0) (hk : k ≤ O.length) :
    List.Pairwise (fun a b => a ≤ b) (O.take k ++ [x] ++ O.drop k) := by
  have a1 : ∀ y ∈ O.take k, y ≤ x := by
    intro y hy
    obtain ⟨j, hj⟩ := List.getElem?_of_mem hy
    rw [List.getElem?_take] at hj
    split at hj
    · have hl := (List.getElem?_eq_some_iff.1 hj).1
      have := h1 j (by assumption) hl
      rw [List.getD, hj, Option.getD_some] at this; omega
    · cases hj
  have a2 : ∀ y ∈ O.drop k, x ≤ y := by
    intro y hy
    obtain ⟨j, hj⟩ := List.getElem?_of_mem hy
    rw [List.getElem?_drop] at hj
    have hl := (List.getElem?_eq_some_iff.1 hj).1
    rcases h2 with h2 | h2
    · omega
    · have hk' : k < O.length := by omega
      have e1 : O.getD k 0 = O[k] := by simp [List.getD, hk']
      rw [e1] at h2
      rcases Nat.eq_zero_or_pos j with rfl | hp
      · have e2 := (List.getElem?_eq_some_iff.1 hj).2
        simp only [Nat.add_zero] at e2
        omega
      · have := List.pairwise_iff_getElem.1 hs k (k + j) hk' hl (by omega)
        have e2 := (List.getElem?_eq_some_iff.1 hj).2
        omega
  rw [List.append_assoc, List.pairwise_append]
  refine ⟨hs.sublist (List.take_sublist k O), ?_, ?_⟩
  · rw [List.singleton_append, List.pairwise_cons]
    exact ⟨a2, hs.sublist (List.drop_sublist k O)⟩
  · intro a ha b hb
    rw [List.singleton_append, List.mem_cons] at hb
    rcases hb with rfl | hb
    · exact a1 a ha
    · have := a1 a ha
      have := a2 b hb
      omega
theorem ins_perm (O : List Int) (x : Int) (k : Nat) : (O.take k ++ [x] ++ O.drop k).Perm (O ++ [x]) := by
  have h1 : (O.take k ++ [x] ++ O.drop k).Perm (O.take k ++ O.drop k ++ [x]) := by
    rw [List.append_assoc, List.append_assoc]
    exact List.Perm.append_left _ List.perm_append_comm
  rw [List.take_append_drop] at h1
  exact h1
theorem own_take {w : World} {e : TypeId} {A : Option Addr} {cap : Nat} {l : List Int} (h : OwnSl w e 1 (.slice A l.length cap) (ints l)) (k : Nat) (hk : k ≤ l.length) : OwnSl w e 1 (.slice A k cap) (ints (l.take k)) := by
  rcases ownInts_cells h with ⟨hv, rfl⟩ | ⟨g, cap', cur, hv, hb, h1, h2, h3, h4⟩
  · simp only [Value.slice.injEq] at hv
    obtain ⟨rfl, _, rfl⟩ := hv
    simp only [List.length_nil, Nat.le_zero] at hk
    subst hk
    exact h
  · simp only [Value.slice.injEq] at hv
    obtain ⟨rfl, _, rfl⟩ := hv
    have := ownInts_of (l := l.take k) (cap := cap) hb (by simp; omega) h2 h3 (by rw [List.length_take, List.map_take, ← h4, List.take_take])
    rw [List.length_take_of_le hk] at this
    exact this

theorem own_take' {w : World} {e : TypeId} {A : Option Addr} {cap : Nat} {l : List Int} {P : Nat → Prop} (h : OwnSl w e 1 (.slice A l.length cap) (ints l)) (k : Nat) (hk : k ≤ l.length) (hP : ∀ j, (Value.slice A l.length cap).ownBlock = some j → P j) :
    OwnSl w e 1 (.slice A k cap) (ints (l.take k)) ∧ ∀ j, (Value.slice A k cap).ownBlock = some j → P j := by
  refine ⟨own_take h k hk, ?_⟩
  have : (Value.slice A k cap).ownBlock = (Value.slice A l.length cap).ownBlock := by cases A <;> rfl
  rw [this]; exact hP

set_option maxHeartbeats 1000000 in
set_option maxRecDepth 20000 in
theorem RefList_calls (h : RefAt w p s F) (hl : s.all.length ≤ 100000) :
    Calls Tryz.prog 100 #[.pointer (some ⟨p, 0, none⟩)] w fun e w' => ∃ v, e = .returned v ∧ OwnSl w' 3 1 v (ints s.list) ∧ (∀ k, v.ownBlock = some k → w.heap.size ≤ k) ∧ Below w.heap.size w w' := by
  obtain ⟨v, h, _⟩ := h
  have c2 : w.cell? ⟨p, 2, none⟩ = some v := cell_ob h.at_ _
  have lp := ob_lt h.at_
  have H := Lib.hid h
  clear h
  go_enter Tryz.func100, Tryz.ntmps100
  go_wp2_with fail
  obtain ⟨A, cap, rfl, r1, r2, r3⟩ := ints_at H.out.all.slice (Chg.below (Chg.refl _ _))
  have R3 := Lib.hid r3
  clear r3
  go_loopw [3, 4] (fun u i wr => ∃ (k : Nat) (O : List Int), k ≤ s.all.length ∧ i = .int .i64 k ∧ O.Perm (s.all.take k) ∧ List.Pairwise (fun a b => a ≤ b) O ∧ OwnSl wr 3 1 u (ints O) ∧ (∀ j, u.ownBlock = some j → w.heap.size ≤ j) ∧ Below w.heap.size w wr) (fun _ i _ => s.all.length - (intOf i).toNat)
  case atStart => exact ⟨0, [], Nat.zero_le _, rfl, List.Perm.refl _, List.Pairwise.nil, OwnSl.made (c := #[]) (ob_alloc_new _ _ _ rfl) RowsOk.nil rfl (by decide), fun j hj => by simp only [Value.ownBlock, Option.some.injEq] at hj; omega, Chg.below (by repeat (first | with_reducible exact Chg.refl _ _ | with_reducible exact chg0 | with_reducible refine Chg.drewN ?_ _ | with_reducible refine Chg.drew ?_ | with_reducible refine Chg.alloc ?_ _ | with_reducible refine Chg.setCell ?_ _ _ (by first | (simp; done) | omega | (simp; omega)) | with_reducible refine Chg.setBlock ?_ _ _ (by first | (simp; done) | omega | (simp; omega)) | exact Chg.refl _ _))⟩
  case round =>
    obtain ⟨k, O, hk, rfl, hperm, hsort, hown, hlo, hb⟩ := hrel
    have Hown := Lib.hid hown
    have Hlo := Lib.hid hlo
    have Hb := Lib.hid hb
    have Hperm := Lib.hid hperm
    have Hsort := Lib.hid hsort
    have sr := hb.size
    have c2r : wr.cell? ⟨p, 2, none⟩ = some (.slice A s.all.length cap) := by rw [hb.cell lp]; exact c2
    have HOl := Lib.hid (show O.length = k by rw [hperm.length_eq, List.length_take]; omega)
    clear hown hlo c2 hperm hsort
    have hO5 : O.length ≤ 100000 := by have := HOl.out; omega
    by_cases hlt : k < s.all.length
    · obtain ⟨q, off, rfl, hc⟩ := R3.out k hlt
      have hck : wr.cell? ⟨q, off + k, none⟩ = some (.int .i64 (s.all.getD k 0)) := by rw [hb.cell (World.block_lt_of_cell? w _ hc)]; exact hc
      have ht : s.all.take (k + 1) = s.all.take k ++ [s.all.getD k 0] := by rw [List.take_succ_eq_append_getElem hlt]; simp [List.getD, hlt]
      have Ht := Lib.hid ht
      clear ht hc hb
      generalize s.all.getD k 0 = x at *
      obtain ⟨A2, cap2, rfl, o1, o2, o3⟩ := ints_at Hown.out.slice (Chg.below (Chg.refl _ _))
      have O3 := Lib.hid o3
      clear o3
      go_wp2_with fail
      go_loopw [5] (fun i W => ∃ (m n : Nat), m ≤ O.length ∧ i = .int .i64 m ∧ (∀ j, j < m → j < O.length → O.getD j 0 < x) ∧ W = wr.drewN n) (fun i _ => O.length - (intOf i).toNat)
      case atStart => exact ⟨0, 0, Nat.zero_le _, rfl, fun j hj => absurd hj (Nat.not_lt_zero _), rfl⟩
      case round =>
        obtain ⟨m, n, hm, rfl, hlow, rfl⟩ := hrel
        have Hlow := Lib.hid hlow
        clear hlow
        have hfrom : ∀ W, Chg (fun _ => False) wr W → ∀ A', (m < O.length → ∀ b off, A2 = some ⟨b, off, none⟩ → A' = some ⟨b, off + m, none⟩) → SliceIs W 1 (.slice A' (O.length - m) (cap2 - m)) (ints (O.drop m)) := fun W hW A' hA' => ints_from (Hown.out.slice.below hW.below) m hm hA'
        have HFrom := Lib.hid hfrom
        clear hfrom
        have hki : (k : Int) < (s.all.length : Int) := by omega
        have hmc : m ≤ cap2 := by omega
        by_cases hml : m < O.length
        · obtain ⟨q2, off2, rfl, hcm⟩ := O3.out m hml
          have hmi : (m : Int) < (O.length : Int) := by omega
          have hmd : decide ((m : Int) < (O.length : Int)) = true := by simp; omega
          obtain ⟨y, hy⟩ : ∃ y, y = O.getD m 0 := ⟨_, rfl⟩
          rw [← hy] at hcm
          have Hy := Lib.hid hy
          clear hy
          by_cases hyx : y < x
          · have hyd : decide (y < x) = true := by simpa using hyx
            go_wp2_with fail
            go_quiet (fail)
            go_wp2_with fail
            refine ⟨⟨m + 1, _, by omega, by go_num, fun j hj hjl => ?_, rfl⟩, by simp [intOf]; omega⟩
            rcases Nat.lt_succ_iff_lt_or_eq.1 hj with h | h
            · exact Hlow.out j h hjl
            · rw [h, ← Hy.out]; exact hyx
          · have hyd : decide (y < x) = false := by simpa using hyx
            go_wp2_with fail
            go_quiet (fail)
            have hup : m = O.length ∨ x ≤ O.getD m 0 := .inr (by rw [← Hy.out]; omega)
            have Hup := Lib.hid hup
            clear hup
            go_wp2_with (at_builtin; refine wpList_append_sl (v := .slice (some ⟨wr.heap.size, 0, none⟩) 0 0) (xs := []) (ys := ints (O.drop m)) rfl _ _ rfl tyInts rfl rfl (OwnSl.made (c := #[]) (e := 3) (b := wr.heap.size) (by rw [ob_drewN]; exact ob_alloc_at _ _) RowsOk.nil rfl (by decide)) (HFrom.out _ (Chg.drewN (Chg.alloc (Chg.refl _ _) _) _) _ (by intro hlt b off e; first | omega | (rw [e]; rfl) | (cases e; rfl) | (exfalso; omega))) (ints_ok _) (by simp; omega) ?_; intro v3 w3 ho3 hc3 hloc3)
            all_goals
              have hw3 : Chg (fun _ => False) wr w3 := Chg.trans (S' := fun j => j = wr.heap.size) (by repeat (first | with_reducible exact Chg.refl _ _ | with_reducible exact chg0 | with_reducible refine Chg.drewN ?_ _ | with_reducible refine Chg.drew ?_ | with_reducible refine Chg.alloc ?_ _ | with_reducible refine Chg.setCell ?_ _ _ (by first | (simp; done) | omega | (simp; omega)) | with_reducible refine Chg.setBlock ?_ _ _ (by first | (simp; done) | omega | (simp; omega)) | exact Chg.refl _ _)) (hc3.mono (fun j _ e => (Option.some.inj e).symm)) (fun j hj e => by omega)
              have lo3 : ∀ j, v3.ownBlock = some j → wr.heap.size ≤ j := fun j hj => fresh_of hloc3 (fun k hk => Nat.le_of_eq (Option.some.inj hk)) (by simp) hj
              have c2w := hw3.cell c2r (fun h => h)
              have hcw := hw3.cell hck (fun h => h)
              have sz3 := hw3.size
              have lp3 : p < w3.heap.size := by omega
              have lq3 : q < w3.heap.size := World.block_lt_of_cell? w3 _ hcw
              have ow2 := own_take' (P := fun j => w.heap.size ≤ j ∧ j < wr.heap.size) (Hown.out.chg hw3 (fun _ _ h => h)) m hm (fun j hj => ⟨Hlo.out j hj, Hown.out.lt hj⟩)
              have Own2 := Lib.hid ow2.1
              have Lo2 := Lib.hid ow2.2
              have Lo3 := Lib.hid lo3
              have Ho3 := Lib.hid (show OwnSl w3 3 1 v3 (ints (O.drop m)) from ho3)
              have Hw3 := Lib.hid hw3
              clear hw3 lo3 ow2 ho3 hc3 hloc3 c2r hck
            all_goals try (have hcm : cap2 = m := (by first | assumption | omega); rw [hcm] at Own2 Lo2)
            all_goals
              go_region_law (first
                | (refine step_append_sl (xs := ints (O.take m)) (ys := [[.int .i64 x]]) rfl _ _ rfl tyInts rfl rfl (Own2.out.chg (S := fun _ => False) (by repeat (first | with_reducible exact Chg.refl _ _ | with_reducible exact chg0 | with_reducible refine Chg.drewN ?_ _ | with_reducible refine Chg.drew ?_ | with_reducible refine Chg.alloc ?_ _ | with_reducible refine Chg.setCell ?_ _ _ (by first | (simp; done) | omega | (simp; omega)) | with_reducible refine Chg.setBlock ?_ _ _ (by first | (simp; done) | omega | (simp; omega)) | exact Chg.refl _ _)) (fun _ _ h => h)) (OwnSl.made (e := 3) (c := #[.int .i64 x]) (b := w3.heap.size) (by first | exact ob_alloc_new _ _ _ rfl | (rw [ob_drew]; exact ob_alloc_new _ _ _ rfl) | (rw [ob_drewN]; exact ob_alloc_new _ _ _ rfl)) (ints_ok [x]) rfl (by simp)).slice (ints_ok [x]) (by simp; omega) ?_; intro v4 w4 ho4 hc4 hloc4; have hc4' : Chg (fun j => w.heap.size ≤ j ∧ j < wr.heap.size) w3 w4 := Chg.trans (S' := fun j => w.heap.size ≤ j ∧ j < wr.heap.size) (by repeat (first | with_reducible exact Chg.refl _ _ | with_reducible exact chg0 | with_reducible refine Chg.drewN ?_ _ | with_reducible refine Chg.drew ?_ | with_reducible refine Chg.alloc ?_ _ | with_reducible refine Chg.setCell ?_ _ _ (by first | (simp; done) | omega | (simp; omega)) | with_reducible refine Chg.setBlock ?_ _ _ (by first | (simp; done) | omega | (simp; omega)) | exact Chg.refl _ _)) (hc4.mono (fun j _ e => Lo2.out j e)) (fun _ _ h => h); have lo4 : ∀ j, v4.ownBlock = some j → w.heap.size ≤ j := fun j hj => fresh_of hloc4 (fun k hk => (Lo2.out k hk).1) (by simp <;> omega) hj; have Ho34 := Lib.hid (Ho3.out.chg hc4' (fun j hj e => absurd (Lo3.out j hj) (by omega))))
                | (refine step_append_sl (v := v4) (xs := ints (O.take m) ++ [[.int .i64 x]]) (ys := ints (O.drop m)) rfl _ _ rfl tyInts rfl rfl ho4 Ho34.out.slice (ints_ok _) (by simp; omega) ?_; intro v5 w5 ho5 hc5 hloc5; have lo5 : ∀ j, v5.ownBlock = some j → w.heap.size ≤ j := fun j hj => fresh_of hloc5 lo4 (by have := hc4'.size; omega) hj))
            all_goals (go_wp2_with fail)
            all_goals
              have hc5' : Chg (fun j => w.heap.size ≤ j) wr w5 := (Hw3.out.mono fun _ _ h => h.elim).trans ((hc4'.mono fun _ _ h => h.1).trans (S := fun j => w.heap.size ≤ j) hc5 (fun j _ e => lo4 j e)) (fun _ _ h => h)
              have hlen : (O.take m ++ [x] ++ O.drop m).Perm (s.all.take (k + 1)) := by
                rw [Ht.out]
                exact (ins_perm O x m).trans (List.Perm.append_right _ Hperm.out)
              refine ⟨⟨k + 1, O.take m ++ [x] ++ O.drop m, by omega, by go_num, hlen, ins_sorted Hsort.out Hlow.out Hup.out hm, ?_, lo5, below_chg Hb.out hc5' (fun j hj h => by omega)⟩, by simp [intOf]; omega⟩
              rw [ints_append, ints_append]; exact ho5
        · have hmi : ¬ (m : Int) < (O.length : Int) := by omega
          have hmd : decide ((m : Int) < (O.length : Int)) = false := by simp; omega
          have hup : m = O.length ∨ x ≤ O.getD m 0 := .inl (by omega)
          have Hup := Lib.hid hup
          clear hup
          go_wp2_with fail
          go_quiet (fail)
          go_wp2_with (at_builtin; refine wpList_append_sl (v := .slice (some ⟨wr.heap.size, 0, none⟩) 0 0) (xs := []) (ys := ints (O.drop m)) rfl _ _ rfl tyInts rfl rfl (OwnSl.made (c := #[]) (e := 3) (b := wr.heap.size) (by rw [ob_drewN]; exact ob_alloc_at _ _) RowsOk.nil rfl (by decide)) (HFrom.out _ (Chg.drewN (Chg.alloc (Chg.refl _ _) _) _) _ (by intro hlt b off e; first | omega | (rw [e]; rfl) | (cases e; rfl) | (exfalso; omega))) (ints_ok _) (by simp; omega) ?_; intro v3 w3 ho3 hc3 hloc3)
          all_goals
            have hw3 : Chg (fun _ => False) wr w3 := Chg.trans (S' := fun j => j = wr.heap.size) (by repeat (first | with_reducible exact Chg.refl _ _ | with_reducible exact chg0 | with_reducible refine Chg.drewN ?_ _ | with_reducible refine Chg.drew ?_ | with_reducible refine Chg.alloc ?_ _ | with_reducible refine Chg.setCell ?_ _ _ (by first | (simp; done) | omega | (simp; omega)) | with_reducible refine Chg.setBlock ?_ _ _ (by first | (simp; done) | omega | (simp; omega)) | exact Chg.refl _ _)) (hc3.mono (fun j _ e => (Option.some.inj e).symm)) (fun j hj e => by omega)
            have lo3 : ∀ j, v3.ownBlock = some j → wr.heap.size ≤ j := fun j hj => fresh_of hloc3 (fun k hk => Nat.le_of_eq (Option.some.inj hk)) (by simp) hj
            have c2w := hw3.cell c2r (fun h => h)
            have hcw := hw3.cell hck (fun h => h)
            have sz3 := hw3.size
            have lp3 : p < w3.heap.size := by omega
            have lq3 : q < w3.heap.size := World.block_lt_of_cell? w3 _ hcw
            have ow2 := own_take' (P := fun j => w.heap.size ≤ j ∧ j < wr.heap.size) (Hown.out.chg hw3 (fun _ _ h => h)) m hm (fun j hj => ⟨Hlo.out j hj, Hown.out.lt hj⟩)
            have Own2 := Lib.hid ow2.1
            have Lo2 := Lib.hid ow2.2
            have Lo3 := Lib.hid lo3
            have Ho3 := Lib.hid (show OwnSl w3 3 1 v3 (ints (O.drop m)) from ho3)
            have Hw3 := Lib.hid hw3
            clear hw3 lo3 ow2 ho3 hc3 hloc3 c2r hck
          all_goals try (have hcm : cap2 = m := (by first | assumption | omega); rw [hcm] at Own2 Lo2)
          all_goals
            go_region_law (first
              | (refine step_append_sl (xs := ints (O.take m)) (ys := [[.int .i64 x]]) rfl _ _ rfl tyInts rfl rfl (Own2.out.chg (S := fun _ => False) (by repeat (first | with_reducible exact Chg.refl _ _ | with_reducible exact chg0 | with_reducible refine Chg.drewN ?_ _ | with_reducible refine Chg.drew ?_ | with_reducible refine Chg.alloc ?_ _ | with_reducible refine Chg.setCell ?_ _ _ (by first | (simp; done) | omega | (simp; omega)) | with_reducible refine Chg.setBlock ?_ _ _ (by first | (simp; done) | omega | (simp; omega)) | exact Chg.refl _ _)) (fun _ _ h => h)) (OwnSl.made (e := 3) (c := #[.int .i64 x]) (b := w3.heap.size) (by first | exact ob_alloc_new _ _ _ rfl | (rw [ob_drew]; exact ob_alloc_new _ _ _ rfl) | (rw [ob_drewN]; exact ob_alloc_new _ _ _ rfl)) (ints_ok [x]) rfl (by simp)).slice (ints_ok [x]) (by simp; omega) ?_; intro v4 w4 ho4 hc4 hloc4; have hc4' : Chg (fun j => w.heap.size ≤ j ∧ j < wr.heap.size) w3 w4 := Chg.trans (S' := fun j => w.heap.size ≤ j ∧ j < wr.heap.size) (by repeat (first | with_reducible exact Chg.refl _ _ | with_reducible exact chg0 | with_reducible refine Chg.drewN ?_ _ | with_reducible refine Chg.drew ?_ | with_reducible refine Chg.alloc ?_ _ | with_reducible refine Chg.setCell ?_ _ _ (by first | (simp; done) | omega | (simp; omega)) | with_reducible refine Chg.setBlock ?_ _ _ (by first | (simp; done) | omega | (simp; omega)) | exact Chg.refl _ _)) (hc4.mono (fun j _ e => Lo2.out j e)) (fun _ _ h => h); have lo4 : ∀ j, v4.ownBlock = some j → w.heap.size ≤ j := fun j hj => fresh_of hloc4 (fun k hk => (Lo2.out k hk).1) (by simp <;> omega) hj; have Ho34 := Lib.hid (Ho3.out.chg hc4' (fun j hj e => absurd (Lo3.out j hj) (by omega))))
              | (refine step_append_sl (v := v4) (xs := ints (O.take m) ++ [[.int .i64 x]]) (ys := ints (O.drop m)) rfl _ _ rfl tyInts rfl rfl ho4 Ho34.out.slice (ints_ok _) (by simp; omega) ?_; intro v5 w5 ho5 hc5 hloc5; have lo5 : ∀ j, v5.ownBlock = some j → w.heap.size ≤ j := fun j hj => fresh_of hloc5 lo4 (by have := hc4'.size; omega) hj))
          all_goals (go_wp2_with fail)
          all_goals
            have hc5' : Chg (fun j => w.heap.size ≤ j) wr w5 := (Hw3.out.mono fun _ _ h => h.elim).trans ((hc4'.mono fun _ _ h => h.1).trans (S := fun j => w.heap.size ≤ j) hc5 (fun j _ e => lo4 j e)) (fun _ _ h => h)
            have hlen : (O.take m ++ [x] ++ O.drop m).Perm (s.all.take (k + 1)) := by
              rw [Ht.out]
              exact (ins_perm O x m).trans (List.Perm.append_right _ Hperm.out)
            refine ⟨⟨k + 1, O.take m ++ [x] ++ O.drop m, by omega, by go_num, hlen, ins_sorted Hsort.out Hlow.out Hup.out hm, ?_, lo5, below_chg Hb.out hc5' (fun j hj h => by omega)⟩, by simp [intOf]; omega⟩
            rw [ints_append, ints_append]; exact ho5
    · go_wp2_with fail
      go_ret
      have := Hperm.out
      rw [List.take_of_length_le (by omega)] at this
      refine ⟨u3, rfl, ?_, Hlo.out, Hb.out⟩
      have e : O = s.list := sort_unique this Hsort.out
      rw [← e]; exact Hown.out
end
end Go.Proofs.YtchlioikkhnidaaGreat
