/-
  The program's lines: what its calls come to.
-/
import Derived.Test.YtamidchoghmmgaaSl
import Derived.Test.YtamidchoghmmgaaLnM
namespace Go.Proofs.Ytamidchoghmmgaa
open Go.RowKit Go.Sort
open Go.ChangeMaps (setBlock)
set_option linter.unusedVariables false

theorem tyIR : MapTy Try.prog 40 3 35 (.slice none 0 0) := ⟨Try.underlying40, Try.underlying3, fun _ => by kernel_rfl⟩
theorem tyInts : SlTy Try.prog 35 3 1 8 (.int .i64 0) := ⟨Try.underlying35, by kernel_rfl, rfl, by decide, by decide⟩

structure LinesIn (w : World) (p mb : Nat) (o : Obj) (f : Int → Option Value) (s : Lines) : Prop where
  at_ : ob w p = some (.cells #[.int .i64 s.sets, .int .i64 s.ways, .map (some mb)] 42 (0, 0))
  map : ob w mb = some o
  obj : MapObj o f
  rows : ∀ k v, f k = some v → OwnSl w 3 1 v (ints (s.row k))
  nil : ∀ k, f k = none → s.row k = []
  apart : ∀ k k' v v' j, f k = some v → f k' = some v' → v.ownBlock = some j → v'.ownBlock = some j → k = k'
  ok : s.Ok

/-- The blocks of lines: the head, the map, the rows. -/
def lnFp (p mb : Nat) (f : Int → Option Value) : Nat → Prop := fun j => j = p ∨ j = mb ∨ ∃ k v, f k = some v ∧ v.ownBlock = some j
def LinesAt (w : World) (p : Nat) (s : Lines) (F : Nat → Prop) : Prop := ∃ mb o f, LinesIn w p mb o f s ∧ (∀ j, lnFp p mb f j → F j) ∧ ∀ j, F j → j < w.heap.size

theorem LinesIn.chg {S : Nat → Prop} {w w' : World} {p mb : Nat} {o : Obj} {f : Int → Option Value} {s : Lines} (h : LinesIn w p mb o f s) (hc : Chg S w w') (hn : ∀ j, lnFp p mb f j → ¬ S j) : LinesIn w' p mb o f s :=
  ⟨hc.ob h.at_ (hn _ (.inl rfl)), hc.ob h.map (hn _ (.inr (.inl rfl))), h.obj, fun k v hk => (h.rows k v hk).chg hc fun j hj => hn j (.inr (.inr ⟨k, v, hk, hj⟩)), h.nil, h.apart, h.ok⟩
theorem LinesAt.chg {S : Nat → Prop} {w w' : World} {p : Nat} {s : Lines} {F : Nat → Prop} (h : LinesAt w p s F) (hc : Chg S w w') (hn : ∀ j, F j → ¬ S j) : LinesAt w' p s F := by
  obtain ⟨mb, o, f, h1, h2, h3⟩ := h
  exact ⟨mb, o, f, h1.chg hc fun j hj => hn j (h2 j hj), h2, fun j hj => Nat.lt_of_lt_of_le (h3 j hj) hc.size⟩
theorem LinesAt.below {w w' : World} {p : Nat} {s : Lines} {F : Nat → Prop} (h : LinesAt w p s F) (hb : Below w.heap.size w w') : LinesAt w' p s F :=
  h.chg (S := fun _ => False) (Chg.of_below hb) fun _ _ h => h
theorem LinesAt.ok {w : World} {p : Nat} {s : Lines} {F : Nat → Prop} (h : LinesAt w p s F) : s.Ok := by obtain ⟨_, _, _, h1, _⟩ := h; exact h1.ok

theorem LinesIn.ne {w : World} {p mb : Nat} {o : Obj} {f : Int → Option Value} {s : Lines} (h : LinesIn w p mb o f s) : p ≠ mb ∧ ∀ k v j, f k = some v → v.ownBlock = some j → j ≠ p ∧ j ≠ mb := by
  obtain ⟨_, _, e, _⟩ := h.obj
  have hp := h.at_
  have hm := h.map
  rw [e] at hm
  refine ⟨fun e' => ?_, fun k v j hk hj => ?_⟩
  · rw [e', hm] at hp; cases hp
  · obtain ⟨c, hc⟩ := (h.rows k v hk).typed hj
    refine ⟨fun e' => ?_, fun e' => ?_⟩
    · rw [e', hp] at hc; injection hc with hc; injection hc with _ hc; revert hc; decide
    · rw [e', hm] at hc; cases hc

/-- The slice in the map at a key: nil, where there is none. -/
def rowV (f : Int → Option Value) (k : Int) : Value := (f k).getD (.slice none 0 0)
theorem LinesIn.row {w : World} {p mb : Nat} {o : Obj} {f : Int → Option Value} {s : Lines} (h : LinesIn w p mb o f s) (k : Int) : OwnSl w 3 1 (rowV f k) (ints (s.row k)) := by
  unfold rowV
  cases hk : f k with
  | none => rw [h.nil k hk]; exact OwnSl.nil
  | some v => exact h.rows k v hk

/-- A row is laid anew. -/
theorem LinesIn.upd {w w' : World} {p mb : Nat} {o o' : Obj} {f : Int → Option Value} {s s' : Lines} (h : LinesIn w p mb o f s) (k : Int) (v : Value) (h1 : s'.sets = s.sets) (h2 : s'.ways = s.ways) (h3 : ∀ q, q ≠ k → s'.row q = s.row q) (h4 : s'.Ok)
    (hv : OwnSl w' 3 1 v (ints (s'.row k))) (hp : ob w' p = ob w p) (hm : ob w' mb = some o') (ho : MapObj o' (upd f k v)) (hr : ∀ q u j, q ≠ k → f q = some u → u.ownBlock = some j → ob w' j = ob w j)
    (hloc : v.ownBlock = (rowV f k).ownBlock ∨ ∀ j, v.ownBlock = some j → w.heap.size ≤ j) : LinesIn w' p mb o' (upd f k v) s' := by
  refine ⟨by rw [hp, h1, h2]; exact h.at_, hm, ho, ?_, ?_, ?_, h4⟩
  · intro q u hq
    unfold Ytamidchoghmmgaa.upd at hq
    split at hq
    · rename_i e; subst e; cases hq; exact hv
    · rename_i e
      rw [h3 q e]
      have hu := h.rows q u hq
      refine ⟨⟨hu.own.1, ?_⟩, hu.ok⟩
      rcases hu.own.2 with h5 | ⟨g, cap, cur, e1, e2, e3, e4⟩
      · exact .inl h5
      · refine .inr ⟨g, cap, cur, e1, e2, ?_, e4⟩
        have := hr q u g e hq (by rw [e1]; rfl)
        unfold ob at this
        rw [this]; exact e3
  · intro q hq
    unfold Ytamidchoghmmgaa.upd at hq
    split at hq
    · cases hq
    · rename_i e; rw [h3 q e]; exact h.nil q hq
  · have key : ∀ q u j, q ≠ k → f q = some u → u.ownBlock = some j → v.ownBlock = some j → False := by
      intro q u j hqk hq hu hvj
      rcases hloc with hl | hl
      · rw [hl] at hvj
        unfold rowV at hvj
        cases hk : f k with
        | none => rw [hk] at hvj; simp [Value.ownBlock] at hvj
        | some v0 => rw [hk] at hvj; exact hqk (h.apart q k u v0 j hq hk hu hvj)
      · have := hl j hvj
        have := (h.rows q u hq).lt hu
        omega
    intro q q' u u' j hq hq' hu hu'
    unfold Ytamidchoghmmgaa.upd at hq hq'
    split at hq <;> split at hq'
    · rename_i e e'; rw [e, e']
    · rename_i e e'; cases hq; exact (key q' u' j e' hq' hu' hu).elim
    · rename_i e e'; cases hq'; exact (key q u j e hq hu hu').elim
    · exact h.apart q q' u u' j hq hq' hu hu'

theorem Clamp_calls (n lo hi : Int) (w : World) : Calls Try.prog 24 #[.int .i64 n, .int .i64 lo, .int .i64 hi] w fun e w' => e = .returned (.int .i64 (clampI n lo hi)) ∧ w = w' := by
  go_enter Try.func24, Try.ntmps24
  go_wp2_with fail
  all_goals
    go_ret
    refine ⟨reti ?_, rfl⟩
    unfold clampI
    omega

theorem tmod_emod (n m : Int) (hm : 1 ≤ m) : (n.tmod m < 0 → n % m = n.tmod m + m) ∧ (¬ n.tmod m < 0 → n % m = n.tmod m) ∧ - m < n.tmod m ∧ n.tmod m < m := by
  have h1 := Int.tmod_eq_emod (a := n) (b := m)
  have h2 := Int.emod_nonneg n (show m ≠ 0 by omega)
  have h3 := Int.emod_lt_of_pos n (show 0 < m by omega)
  have h4 : (m.natAbs : Int) = m := by omega
  split at h1
  · refine ⟨fun h => ?_, fun h => ?_, ?_, ?_⟩ <;> omega
  · refine ⟨fun h => ?_, fun h => ?_, ?_, ?_⟩ <;> omega
theorem Mod_calls (n m : Int) (w : World) (h1 : 1 ≤ m) (h2 : m ≤ 1000000) : Calls Try.prog 35 #[.int .i64 n, .int .i64 m] w fun e w' => e = .returned (.int .i64 (n % m)) ∧ w = w' := by
  obtain ⟨t1, t2, t3, t4⟩ := tmod_emod n m h1
  have hm0 : ¬ m = 0 := by omega
  go_enter Try.func35, Try.ntmps35
  go_wp2_with fail
  all_goals
    go_ret
    exact ⟨reti (by first | rfl | omega), rfl⟩

section
variable {w : World} {p mb : Nat} {o : Obj} {f : Int → Option Value} {s : Lines}

theorem LinesIn.lookup (h : LinesIn w p mb o f s) (k : Int) (W : World) (hW : ob W mb = some o) :
    (Instr.lookup 40 (.map (some mb)) (.int .i64 k) false).run Try.prog W = .ok (rowV f k) W := h.obj.lookup tyIR k mb W hW

theorem setc_calls (b z : Int) (c0 : w.cell? ⟨p, 0, none⟩ = some (.int .i64 z)) (s1 : 1 ≤ z) (s2 : z ≤ 64) :
    Calls Try.prog 27 #[.pointer (some ⟨p, 0, none⟩), .int .i64 b] w fun e w' => e = .returned (.int .i64 (b % z)) ∧ w = w' := by
  go_enter Try.func27, Try.ntmps27
  go_wp2_with (go_at_call 35; refine (Mod_calls b z _ s1 (by omega)).mono ?_; rintro e w' ⟨rfl, rfl⟩)
  go_ret
  exact ⟨rfl, rfl⟩
theorem set_calls (b : Int) (h : LinesIn w p mb o f s) :
    Calls Try.prog 27 #[.pointer (some ⟨p, 0, none⟩), .int .i64 b] w fun e w' => e = .returned (.int .i64 (b % s.sets)) ∧ w = w' :=
  setc_calls b s.sets (cell_ob h.at_ _) h.ok.s1 h.ok.s2
theorem row_calls (b : Int) (h : LinesIn w p mb o f s) :
    Calls Try.prog 26 #[.pointer (some ⟨p, 0, none⟩), .int .i64 b] w fun e w' => e = .returned (rowV f (b % s.sets)) ∧ ∃ n, w' = w.drewN n := by
  have c2 : w.cell? ⟨p, 2, none⟩ = some (.map (some mb)) := cell_ob h.at_ _
  have hm := h.map
  have hl := h.lookup
  have H := Lib.hid h
  clear h
  go_enter Try.func26, Try.ntmps26
  go_wp2_with fail
  go_quiet ((go_at_call 27; exact (set_calls b (H.out.chg (S := fun _ => False) (by repeat (first | with_reducible exact Chg.refl _ _ | with_reducible exact chg0 | with_reducible refine Chg.drewN ?_ _ | with_reducible refine Chg.drew ?_ | with_reducible refine Chg.alloc ?_ _ | with_reducible refine Chg.setCell ?_ _ _ (by first | (simp; done) | omega | (simp; omega)) | with_reducible refine Chg.setBlock ?_ _ _ (by first | (simp; done) | omega | (simp; omega)) | exact Chg.refl _ _)) (fun _ _ h => h))).mono (fun _ _ h => ⟨h.1, _, h.2.symm⟩)))
  go_wp2_with fail
  go_ret
  exact ⟨rfl, _, rfl⟩
theorem Has_in (b : Int) (h : LinesIn w p mb o f s) :
    Calls Try.prog 18 #[.pointer (some ⟨p, 0, none⟩), .int .i64 b] w fun e w' => e = .returned (.bool (s.has b)) ∧ ∃ n, w' = w.drewN n := by
  have hr := (h.row (b % s.sets)).slice
  have H := Lib.hid h
  have HR := Lib.hid hr
  clear h hr
  go_enter Try.func18, Try.ntmps18
  go_wp2_with (first
    | (go_at_call 26; refine (row_calls b H.out).mono ?_; rintro e w' ⟨rfl, n, rfl⟩)
    | (go_at_call 32; refine (Contains_calls _ b _ _ (HR.out.below (Chg.below (by repeat (first | with_reducible exact Chg.refl _ _ | with_reducible exact chg0 | with_reducible refine Chg.drewN ?_ _ | with_reducible refine Chg.drew ?_ | with_reducible refine Chg.alloc ?_ _ | with_reducible refine Chg.setCell ?_ _ _ (by first | (simp; done) | omega | (simp; omega)) | with_reducible refine Chg.setBlock ?_ _ _ (by first | (simp; done) | omega | (simp; omega)) | exact Chg.refl _ _))))).mono ?_; rintro e w' ⟨rfl, rfl⟩))
  go_ret
  exact ⟨retb (by rw [← s.mates_has b]; simp [Lines.mates]), _, rfl⟩
theorem Has_calls {F : Nat → Prop} (b : Int) (h : LinesAt w p s F) :
    Calls Try.prog 18 #[.pointer (some ⟨p, 0, none⟩), .int .i64 b] w fun e w' => e = .returned (.bool (s.has b)) ∧ ∃ n, w' = w.drewN n := by
  obtain ⟨_, _, _, h, _⟩ := h
  exact Has_in b h
end

theorem LinesNew_calls (a b : Int) (w : World) : Calls Try.prog 8 #[.int .i64 a, .int .i64 b] w fun e w' => ∃ p F, e = .returned (.pointer (some ⟨p, 0, none⟩)) ∧ LinesAt w' p (Lines.new a b) F ∧ (∀ j, F j → w.heap.size ≤ j) ∧ Below w.heap.size w w' := by
  have hmm := @run_makeMap Try.prog
  go_enter Try.func8, Try.ntmps8
  go_wp2_with (go_at_call 24; refine (Clamp_calls _ _ _ _).mono ?_; rintro e w' ⟨rfl, rfl⟩)
  go_ret
  have hp : ob ((w.alloc (.map #[] 0)).alloc (.cells #[.int .i64 (clampI a 1 64), .int .i64 (clampI b 1 16), .map (some w.heap.size)] 42)) (w.heap.size + 1) = some (.cells #[.int .i64 (clampI a 1 64), .int .i64 (clampI b 1 16), .map (some w.heap.size)] 42) := ob_alloc_new _ _ _ (by simp)
  have hm : ob ((w.alloc (.map #[] 0)).alloc (.cells #[.int .i64 (clampI a 1 64), .int .i64 (clampI b 1 16), .map (some w.heap.size)] 42)) w.heap.size = some (.map #[] 0) := by
    rw [ob_alloc_past _ _ _ (by simp), ob_alloc_at]
  refine ⟨w.heap.size + 1, fun j => j = w.heap.size ∨ j = w.heap.size + 1, rfl, ⟨w.heap.size, _, fun _ => none, ⟨hp, hm, MapObj.empty 0, fun k v hk => (by cases hk), fun k _ => rfl, fun k k' v v' j hk => (by cases hk), Lines.new_ok a b⟩, ?_, ?_⟩, ?_, (((Chg.refl (fun _ => False) w).alloc _).alloc _).below⟩
  · rintro j (rfl | rfl | ⟨k, v, hk, _⟩)
    · exact .inr rfl
    · exact .inl rfl
    · cases hk
  · rintro j (rfl | rfl) <;> simp <;> omega
  · rintro j (rfl | rfl) <;> omega
end Go.Proofs.Ytamidchoghmmgaa
