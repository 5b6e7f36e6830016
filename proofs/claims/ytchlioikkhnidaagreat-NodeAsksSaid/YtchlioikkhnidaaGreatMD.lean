/-
  The program's lines: what its calls come to.
-/
import Derived.Test.YtchlioikkhnidaaGreatMC
import Derived.Test.YtchlioikkhnidaaGreatMA
import Derived.StillTailTactics
set_option linter.unusedVariables false
set_option linter.unusedSimpArgs false
namespace Go.Proofs.YtchlioikkhnidaaGreat
open Go.RowKit Go.Sort
open Go.ChangeMaps (setBlock)
set_option linter.unusedVariables false

theorem tyIR : MapTy Tryz.prog 207 3 110 (.slice none 0 0) := ⟨Tryz.underlying207, Tryz.underlying3, fun _ => by kernel_rfl⟩
theorem tyInts : SlTy Tryz.prog 110 3 1 8 (.int .i64 0) := ⟨Tryz.underlying110, by kernel_rfl, rfl, by decide, by decide⟩

structure LinesIn (w : World) (p mb : Nat) (o : Obj) (f : Int → Option Value) (s : Lines) : Prop where
  at_ : ob w p = some (.cells #[.int .i64 s.sets, .int .i64 s.ways, .map (some mb)] 209 (0, 0))
  map : ob w mb = some o
  obj : MapObj o f
  rows : ∀ k v, f k = some v → OwnSl w 3 1 v (ints (s.row k))
  nil : ∀ k, f k = none → s.row k = []
  apart : ∀ k k' v v' j, f k = some v → f k' = some v' → v.ownBlock = some j → v'.ownBlock = some j → k = k'
  ok : s.Ok

/-- The blocks of lines: the head, the map, the rows. -/
def lnFp (p mb : Nat) (f : Int → Option Value) : Nat → Prop := fun j => j = p ∨ j = mb ∨ ∃ k v, f k = some v ∧ v.ownBlock = some j
def LinesAt (w : World) (p : Nat) (s : Lines) (F : Nat → Prop) : Prop := ∃ mb o f, LinesIn w p mb o f s ∧ (∀ j, lnFp p mb f j → F j) ∧ ∀ j, F j → j < w.heap.size

theorem LinesIn.chg {S : Nat → Prop} {w w' : World} {p mb : Nat} {o : Obj} {f : Int → Option Value} {s : Lines} (h : LinesIn w p mb o f s) (hc : Chg S w w') (hn : ∀ j, lnFp p mb f j → ¬ S j) : LinesIn w' p mb o f s :=
  ⟨hc.ob h.at_ (hn _ (.inl rfl)), hc.ob h.map (hn _ (.inr (.inl rfl))), h.obj, fun k v hk => (h.rows k v hk).chg hc fun j hj => hn j (.inr (.inr ⟨k, v, hk, hj⟩)), h.nil, h.apart, h.ok⟩
theorem LinesAt.chg {S : Nat → Prop} {w w' : World} {p : Nat} {s : Lines} {F : Nat → Prop} (h : LinesAt w p s F) (hc : Chg S w w') (hn : ∀ j, F j → ¬ S j) : LinesAt w' p s F := by
  obtain ⟨mb, o, f, h1, h2, h3⟩ := h
  exact ⟨mb, o, f, h1.chg hc fun j hj => hn j (h2 j hj), h2, fun j hj => Nat.lt_of_lt_of_le (h3 j hj) hc.size⟩
theorem LinesAt.below {w w' : World} {p : Nat} {s : Lines} {F : Nat → Prop} (h : LinesAt w p s F) (hb : Below w.heap.size w w') : LinesAt w' p s F :=
  h.chg (S := fun _ => False) (Chg.of_below hb) fun _ _ h => h
theorem LinesAt.ok {w : World} {p : Nat} {s : Lines} {F : Nat → Prop} (h : LinesAt w p s F) : s.Ok := by obtain ⟨_, _, _, h1, _⟩ := h; exact h1.ok

theorem LinesIn.ne {w : World} {p mb : Nat} {o : Obj} {f : Int → Option Value} {s : Lines} (h : LinesIn w p mb o f s) : p ≠ mb ∧ ∀ k v j, f k = some v → v.ownBlock = some j → j ≠ p ∧ j ≠ mb := by
  obtain ⟨_, _, e, _⟩ := h.obj
  have hp := h.at_
  have hm := h.map
  rw [e] at hm
  refine ⟨fun e' => ?_, fun k v j hk hj => ?_⟩
  · rw [e', hm] at hp; cases hp
  · obtain ⟨c, hc⟩ := (h.rows k v hk).typed hj
    refine ⟨fun e' => ?_, fun e' => ?_⟩
    · rw [e', hp] at hc; injection hc with hc; injection hc with _ hc; revert hc; decide
    · rw [e', hm] at hc; cases hc

/-- The slice in the map at a key: nil, where there is none. -/
def rowV (f : Int → Option Value) (k : Int) : Value := (f k).getD (.slice none 0 0)
theorem LinesIn.row {w : World} {p mb : Nat} {o : Obj} {f : Int → Option Value} {s : Lines} (h : LinesIn w p mb o f s) (k : Int) : OwnSl w 3 1 (rowV f k) (ints (s.row k)) := by
  unfold rowV
  cases hk : f k with
  | none => rw [h.nil k hk]; exact OwnSl.nil
  | some v => exact h.rows k v hk

/-- A row is laid anew. -/
theorem LinesIn.upd {w w' : World} {p mb : Nat} {o o' : Obj} {f : Int → Option Value} {s s' : Lines} (h : LinesIn w p mb o f s) (k : Int) (v : Value) (h1 : s'.sets = s.sets) (h2 : s'.ways = s.ways) (h3 : ∀ q, q ≠ k → s'.row q = s.row q) (h4 : s'.Ok)
    (hv : OwnSl w' 3 1 v (ints (s'.row k))) (hp : ob w' p = ob w p) (hm : ob w' mb = some o') (ho : MapObj o' (upd f k v)) (hr : ∀ q u j, q ≠ k → f q = some u → u.ownBlock = some j → ob w' j = ob w j)
    (hloc : v.ownBlock = (rowV f k).ownBlock ∨ ∀ j, v.ownBlock = some j → w.heap.size ≤ j) : LinesIn w' p mb o' (upd f k v) s' := by
  refine ⟨by rw [hp, h1, h2]; exact h.at_, hm, ho, ?_, ?_, ?_, h4⟩
  · intro q u hq
    unfold YtchlioikkhnidaaGreat.upd at hq
    split at hq
    · rename_i e; subst e; cases hq; exact hv
    · rename_i e
      rw [h3 q e]
      have hu := h.rows q u hq
      refine ⟨⟨hu.own.1, ?_⟩, hu.ok⟩
      rcases hu.own.2 with h5 | ⟨g, cap, cur, e1, e2, e3, e4⟩
      · exact .inl h5
      · refine .inr ⟨g, cap, cur, e1, e2, ?_, e4⟩
        have := hr q u g e hq (by rw [e1]; rfl)
        unfold ob at this
        rw [this]; exact e3
  · intro q hq
    unfold YtchlioikkhnidaaGreat.upd at hq
    split at hq
    · cases hq
    · rename_i e; rw [h3 q e]; exact h.nil q hq
  · have key : ∀ q u j, q ≠ k → f q = some u → u.ownBlock = some j → v.ownBlock = some j → False := by
      intro q u j hqk hq hu hvj
      rcases hloc with hl | hl
      · rw [hl] at hvj
        unfold rowV at hvj
        cases hk : f k with
        | none => rw [hk] at hvj; simp [Value.ownBlock] at hvj
        | some v0 => rw [hk] at hvj; exact hqk (h.apart q k u v0 j hq hk hu hvj)
      · have := hl j hvj
        have := (h.rows q u hq).lt hu
        omega
    intro q q' u u' j hq hq' hu hu'
    unfold YtchlioikkhnidaaGreat.upd at hq hq'
    split at hq <;> split at hq'
    · rename_i e e'; rw [e, e']
    · rename_i e e'; cases hq; exact (key q' u' j e' hq' hu' hu).elim
    · rename_i e e'; cases hq'; exact (key q u j e hq hu hu').elim
    · exact h.apart q q' u u' j hq hq' hu hu'

theorem Clamp_calls (n lo hi : Int) (w : World) : Calls Tryz.prog 145 #[.int .i64 n, .int .i64 lo, .int .i64 hi] w fun e w' => e = .returned (.int .i64 (clampI n lo hi)) ∧ w = w' := by
  go_enter Tryz.func145, Tryz.ntmps145
  go_wp2_with fail
  all_goals
    go_ret
    refine ⟨reti ?_, rfl⟩
    unfold clampI
    omega

theorem tmod_emod (n m : Int) (hm : 1 ≤ m) : (n.tmod m < 0 → n % m = n.tmod m + m) ∧ (¬ n.tmod m < 0 → n % m = n.tmod m) ∧ - m < n.tmod m ∧ n.tmod m < m := by
  have h1 := Int.tmod_eq_emod (a := n) (b := m)
  have h2 := Int.emod_nonneg n (show m ≠ 0 by omega)
  have h3 := Int.emod_lt_of_pos n (show 0 < m by omega)
  have h4 : (m.natAbs : Int) = m := by omega
  split at h1
  · refine ⟨fun h => ?_, fun h => ?_, ?_, ?_⟩ <;> omega
  · refine ⟨fun h => ?_, fun h => ?_, ?_, ?_⟩ <;> omega
theorem Mod_calls (n m : Int) (w : World) (h1 : 1 ≤ m) (h2 : m ≤ 1000000) : Calls Tryz.prog 161 #[.int .i64 n, .int .i64 m] w fun e w' => e = .returned (.int .i64 (n % m)) ∧ w = w' := by
  obtain ⟨t1, t2, t3, t4⟩ := tmod_emod n m h1
  have hm0 : ¬ m = 0 := by omega
  go_enter Tryz.func161, Tryz.ntmps161
  go_wp2_with fail
  all_goals
    go_ret
    exact ⟨reti (by first | rfl | omega), rfl⟩

section
variable {w : World} {p mb : Nat} {o : Obj} {f : Int → Option Value} {s : Lines}

theorem LinesIn.lookup (h : LinesIn w p mb o f s) (k : Int) (W : World) (hW : ob W mb = some o) :
    (Instr.lookup 207 (.map (some mb)) (.int .i64 k) false).run Tryz.prog W = .ok (rowV f k) W := h.obj.lookup tyIR k mb W hW

theorem setc_calls (b z : Int) (c0 : w.cell? ⟨p, 0, none⟩ = some (.int .i64 z)) (s1 : 1 ≤ z) (s2 : z ≤ 64) :
    Calls Tryz.prog 153 #[.pointer (some ⟨p, 0, none⟩), .int .i64 b] w fun e w' => e = .returned (.int .i64 (b % z)) ∧ w = w' := by
  go_enter Tryz.func153, Tryz.ntmps153
  go_wp2_with (go_at_call 161; refine (Mod_calls b z _ s1 (by omega)).mono ?_; rintro e w' ⟨rfl, rfl⟩)
  go_ret
  exact ⟨rfl, rfl⟩
theorem set_calls (b : Int) (h : LinesIn w p mb o f s) :
    Calls Tryz.prog 153 #[.pointer (some ⟨p, 0, none⟩), .int .i64 b] w fun e w' => e = .returned (.int .i64 (b % s.sets)) ∧ w = w' :=
  setc_calls b s.sets (cell_ob h.at_ _) h.ok.s1 h.ok.s2
theorem row_calls (b : Int) (h : LinesIn w p mb o f s) :
    Calls Tryz.prog 151 #[.pointer (some ⟨p, 0, none⟩), .int .i64 b] w fun e w' => e = .returned (rowV f (b % s.sets)) ∧ ∃ n, w' = w.drewN n := by
  have c2 : w.cell? ⟨p, 2, none⟩ = some (.map (some mb)) := cell_ob h.at_ _
  have hm := h.map
  have hl := h.lookup
  have H := Lib.hid h
  clear h
  go_enter Tryz.func151, Tryz.ntmps151
  go_wp2_with fail
  go_quiet ((go_at_call 153; exact (set_calls b (H.out.chg (S := fun _ => False) (by repeat (first | with_reducible exact Chg.refl _ _ | with_reducible exact chg0 | with_reducible refine Chg.drewN ?_ _ | with_reducible refine Chg.drew ?_ | with_reducible refine Chg.alloc ?_ _ | with_reducible refine Chg.setCell ?_ _ _ (by first | (simp; done) | omega | (simp; omega)) | with_reducible refine Chg.setBlock ?_ _ _ (by first | (simp; done) | omega | (simp; omega)) | exact Chg.refl _ _)) (fun _ _ h => h))).mono (fun _ _ h => ⟨h.1, _, h.2.symm⟩)))
  go_wp2_with fail
  go_ret
  exact ⟨rfl, _, rfl⟩
theorem Has_in (b : Int) (h : LinesIn w p mb o f s) :
    Calls Tryz.prog 130 #[.pointer (some ⟨p, 0, none⟩), .int .i64 b] w fun e w' => e = .returned (.bool (s.has b)) ∧ ∃ n, w' = w.drewN n := by
  have hr := (h.row (b % s.sets)).slice
  have H := Lib.hid h
  have HR := Lib.hid hr
  clear h hr
  go_enter Tryz.func130, Tryz.ntmps130
  go_wp2_with (first
    | (go_at_call 151; refine (row_calls b H.out).mono ?_; rintro e w' ⟨rfl, n, rfl⟩)
    | (go_at_call 152; refine (Contains_calls _ b _ _ (HR.out.below (Chg.below (by repeat (first | with_reducible exact Chg.refl _ _ | with_reducible exact chg0 | with_reducible refine Chg.drewN ?_ _ | with_reducible refine Chg.drew ?_ | with_reducible refine Chg.alloc ?_ _ | with_reducible refine Chg.setCell ?_ _ _ (by first | (simp; done) | omega | (simp; omega)) | with_reducible refine Chg.setBlock ?_ _ _ (by first | (simp; done) | omega | (simp; omega)) | exact Chg.refl _ _))))).mono ?_; rintro e w' ⟨rfl, rfl⟩))
  go_ret
  exact ⟨retb (by rw [← s.mates_has b]; simp [Lines.mates]), _, rfl⟩
theorem Has_calls {F : Nat → Prop} (b : Int) (h : LinesAt w p s F) :
    Calls Tryz.prog 130 #[.pointer (some ⟨p, 0, none⟩), .int .i64 b] w fun e w' => e = .returned (.bool (s.has b)) ∧ ∃ n, w' = w.drewN n := by
  obtain ⟨_, _, _, h, _⟩ := h
  exact Has_in b h
end

theorem LinesNew_calls (a b : Int) (w : World) : Calls Tryz.prog 122 #[.int .i64 a, .int .i64 b] w fun e w' => ∃ p F, e = .returned (.pointer (some ⟨p, 0, none⟩)) ∧ LinesAt w' p (Lines.new a b) F ∧ (∀ j, F j → w.heap.size ≤ j) ∧ Below w.heap.size w w' := by
  have hmm := @run_makeMap Tryz.prog
  go_enter Tryz.func122, Tryz.ntmps122
  go_wp2_with (go_at_call 145; refine (Clamp_calls _ _ _ _).mono ?_; rintro e w' ⟨rfl, rfl⟩)
  go_ret
  have hp : ob ((w.alloc (.map #[] 0)).alloc (.cells #[.int .i64 (clampI a 1 64), .int .i64 (clampI b 1 16), .map (some w.heap.size)] 209)) (w.heap.size + 1) = some (.cells #[.int .i64 (clampI a 1 64), .int .i64 (clampI b 1 16), .map (some w.heap.size)] 209) := ob_alloc_new _ _ _ (by simp)
  have hm : ob ((w.alloc (.map #[] 0)).alloc (.cells #[.int .i64 (clampI a 1 64), .int .i64 (clampI b 1 16), .map (some w.heap.size)] 209)) w.heap.size = some (.map #[] 0) := by
    rw [ob_alloc_past _ _ _ (by simp), ob_alloc_at]
  refine ⟨w.heap.size + 1, fun j => j = w.heap.size ∨ j = w.heap.size + 1, rfl, ⟨w.heap.size, _, fun _ => none, ⟨hp, hm, MapObj.empty 0, fun k v hk => (by cases hk), fun k _ => rfl, fun k k' v v' j hk => (by cases hk), Lines.new_ok a b⟩, ?_, ?_⟩, ?_, (((Chg.refl (fun _ => False) w).alloc _).alloc _).below⟩
  · rintro j (rfl | rfl | ⟨k, v, hk, _⟩)
    · exact .inr rfl
    · exact .inl rfl
    · cases hk
  · rintro j (rfl | rfl) <;> simp <;> omega
  · rintro j (rfl | rfl) <;> omega
end Go.Proofs.YtchlioikkhnidaaGreat

/-
  The program's lines: Add, Remove, Use, Victim.
-/
namespace Go.Proofs.YtchlioikkhnidaaGreat
open Go.RowKit Go.Sort
open Go.ChangeMaps (setBlock)
set_option linter.unusedVariables false

/-- What a call may turn: these blocks, which become those. -/
structure Moves (w w' : World) (F F' : Nat → Prop) : Prop where
  chg : Chg F w w'
  fresh : ∀ j, F' j → F j ∨ w.heap.size ≤ j
theorem Moves.none {w w' : World} {F : Nat → Prop} (h : Chg (fun _ => False) w w') : Moves w w' F F := ⟨h.mono fun _ _ h => h.elim, fun _ h => .inl h⟩
theorem Moves.trans {w w1 w2 : World} {F F1 F2 : Nat → Prop} (h : Moves w w1 F F1) (h' : Moves w1 w2 F1 F2) : Moves w w2 F F2 :=
  ⟨h.chg.trans h'.chg fun k hk hf => (h.fresh k hf).elim id fun hh => absurd hk (Nat.not_lt.2 hh), fun j hj => by
    rcases h'.fresh j hj with h1 | h1
    · exact h.fresh j h1
    · exact .inr (Nat.le_trans h.chg.size h1)⟩

/-- Behind a row's change in its place and the map's. -/
theorem lines_put {w w2 : World} {p mb : Nat} {o o2 : Obj} {f : Int → Option Value} {s s' : Lines} {F : Nat → Prop} (h : LinesIn w p mb o f s) (hF : ∀ j, lnFp p mb f j → F j) (hFl : ∀ j, F j → j < w.heap.size) (k : Int) (v : Value)
    (h1 : s'.sets = s.sets) (h2 : s'.ways = s.ways) (h3 : ∀ q, q ≠ k → s'.row q = s.row q) (h4 : s'.Ok) (hv : OwnSl w2 3 1 v (ints (s'.row k))) (hc : Chg (fun j => (rowV f k).ownBlock = some j) w w2)
    (hloc : v.ownBlock = (rowV f k).ownBlock ∨ ∀ j, v.ownBlock = some j → w.heap.size ≤ j) (ho : MapObj o2 (upd f k v)) :
    ∃ F', LinesAt (setBlock w2 mb o2) p s' F' ∧ Moves w (setBlock w2 mb o2) F F' := by
  have hne := h.ne
  have lp := ob_lt h.at_
  have lm := ob_lt h.map
  have hsz := hc.size
  have key : ∀ j, (rowV f k).ownBlock = some j → ∃ u, f k = some u ∧ u.ownBlock = some j := by
    intro j hj
    unfold rowV at hj
    cases hk : f k with
    | none => rw [hk] at hj; simp [Value.ownBlock] at hj
    | some u => rw [hk] at hj; exact ⟨u, rfl, hj⟩
  have np : ¬ (rowV f k).ownBlock = some p := fun e => by
    obtain ⟨u, e1, e2⟩ := key p e
    exact (hne.2 k u p e1 e2).1 rfl
  have nm : ¬ (rowV f k).ownBlock = some mb := fun e => by
    obtain ⟨u, e1, e2⟩ := key mb e
    exact (hne.2 k u mb e1 e2).2 rfl
  have hm2 : ob w2 mb = some o := hc.ob h.map nm
  have hc2 : Chg (fun j => j = mb) w2 (setBlock w2 mb o2) := (Chg.refl _ _).setBlock _ _ (fun _ => rfl)
  have hin : LinesIn (setBlock w2 mb o2) p mb o2 (upd f k v) s' := by
    refine h.upd k v h1 h2 h3 h4 (hv.chg hc2 ?_) ?_ (ob_setBlock_lt _ _ _ (by omega)) ho ?_ hloc
    · rintro j hj rfl
      obtain ⟨c, hcj⟩ := hv.typed hj
      obtain ⟨_, _, e, _⟩ := h.obj
      rw [hm2, e] at hcj; cases hcj
    · rw [ob_setBlock_ne _ _ _ _ hne.1]
      exact hc.block p lp np
    · intro q u j hq hu hj
      rw [ob_setBlock_ne _ _ _ _ (hne.2 q u j hu hj).2]
      refine hc.block j ((h.rows q u hu).lt hj) fun e => ?_
      obtain ⟨u', e1, e2⟩ := key j e
      exact hq (h.apart q k u u' j hu e1 hj e2)
  have hc0 : Chg F w w2 := hc.mono fun j _ hj => by
    obtain ⟨u, e1, e2⟩ := key j hj
    exact hF _ (.inr (.inr ⟨k, u, e1, e2⟩))
  have hall : Chg F w (setBlock w2 mb o2) := hc0.trans hc2 fun j _ e => by rw [e]; exact hF _ (.inr (.inl rfl))
  refine ⟨fun j => F j ∨ (w.heap.size ≤ j ∧ j < w2.heap.size), ⟨mb, o2, _, hin, ?_, ?_⟩, ⟨hall, fun j hj => hj.imp id And.left⟩⟩
  · rintro j (rfl | rfl | ⟨q, u, hq, hj⟩)
    · exact .inl (hF _ (.inl rfl))
    · exact .inl (hF _ (.inr (.inl rfl)))
    · have hlt : j < w2.heap.size := by
        have := (hin.rows q u hq).lt hj
        rw [size_setBlock] at this; exact this
      unfold YtchlioikkhnidaaGreat.upd at hq
      split at hq
      · cases hq
        rcases hloc with hl | hl
        · rw [hl] at hj
          obtain ⟨u', e1, e2⟩ := key j hj
          exact .inl (hF _ (.inr (.inr ⟨k, u', e1, e2⟩)))
        · exact .inr ⟨hl j hj, hlt⟩
      · exact .inl (hF _ (.inr (.inr ⟨q, u, hq, hj⟩)))
  · rintro j (hj | hj)
    · have := hFl j hj
      rw [size_setBlock]; omega
    · rw [size_setBlock]; exact hj.2

section
variable {w : World} {p : Nat} {s : Lines} {F : Nat → Prop}

set_option maxHeartbeats 1000000 in
theorem Add_calls (b : Int) (h : LinesAt w p s F) :
    Calls Tryz.prog 132 #[.pointer (some ⟨p, 0, none⟩), .int .i64 b] w fun e w' => e = .returned (.bool (s.can b)) ∧ ∃ F', LinesAt w' p (s.add b) F' ∧ Moves w w' F F' := by
  obtain ⟨mb, o, f, h, hF, hFl⟩ := h
  have c1 : w.cell? ⟨p, 1, none⟩ = some (.int .i64 s.ways) := cell_ob h.at_ _
  have c2 : w.cell? ⟨p, 2, none⟩ = some (.map (some mb)) := cell_ob h.at_ _
  have lp := ob_lt h.at_
  have H := Lib.hid h
  have HF := Lib.hid hF
  have HFl := Lib.hid hFl
  have no : s.can b = false → ∀ w1, Chg (fun _ => False) w w1 → (Ending.returned (.bool false) = .returned (.bool (s.can b))) ∧ ∃ F', LinesAt w1 p (s.add b) F' ∧ Moves w w1 F F' := fun hc w1 h1 =>
    ⟨by rw [hc], F, by rw [Lines.add, hc]; exact LinesAt.chg ⟨mb, o, f, H.out, HF.out, HFl.out⟩ h1 (fun _ _ h => h), Moves.none h1⟩
  have No := Lib.hid no
  have hcan : s.can b = (!(decide (b < 0) || s.has b || decide (s.ways ≤ ((s.mates b).length : Int)))) := rfl
  obtain ⟨A, cap, hA, hA1, hA2, _⟩ := sliceInts (H.out.row (b % s.sets)).slice
  clear h hF hFl no
  by_cases q1 : b < 0
  · have hno : s.can b = false := by rw [hcan]; simp [q1]
    clear hcan
    go_enter Tryz.func132, Tryz.ntmps132
    go_wp2_with (go_at_call 151; refine (row_calls b H.out).mono ?_; rintro e w1 ⟨rfl, n1, rfl⟩)
    go_ret
    exact No.out hno _ (by repeat (first | with_reducible exact Chg.refl _ _ | with_reducible exact chg0 | with_reducible refine Chg.drewN ?_ _ | with_reducible refine Chg.drew ?_ | with_reducible refine Chg.alloc ?_ _ | with_reducible refine Chg.setCell ?_ _ _ (by first | (simp; done) | omega | (simp; omega)) | with_reducible refine Chg.setBlock ?_ _ _ (by first | (simp; done) | omega | (simp; omega)) | exact Chg.refl _ _))
  have q1' : decide (b < 0) = false := by simpa using q1
  cases hh : s.has b with
  | true =>
    have hno : s.can b = false := by rw [hcan, hh]; simp
    clear hcan
    go_enter Tryz.func132, Tryz.ntmps132
    go_wp2_with (first
      | (go_at_call 151; refine (row_calls b H.out).mono ?_; rintro e w1 ⟨rfl, n1, rfl⟩)
      | (go_at_call 130; refine (Has_in b (H.out.chg (S := fun _ => False) (by repeat (first | with_reducible exact Chg.refl _ _ | with_reducible exact chg0 | with_reducible refine Chg.drewN ?_ _ | with_reducible refine Chg.drew ?_ | with_reducible refine Chg.alloc ?_ _ | with_reducible refine Chg.setCell ?_ _ _ (by first | (simp; done) | omega | (simp; omega)) | with_reducible refine Chg.setBlock ?_ _ _ (by first | (simp; done) | omega | (simp; omega)) | exact Chg.refl _ _)) (fun _ _ h => h))).mono ?_; rintro e w1 ⟨rfl, n2, rfl⟩; rw [hh]))
    go_ret
    exact No.out hno _ (by repeat (first | with_reducible exact Chg.refl _ _ | with_reducible exact chg0 | with_reducible refine Chg.drewN ?_ _ | with_reducible refine Chg.drew ?_ | with_reducible refine Chg.alloc ?_ _ | with_reducible refine Chg.setCell ?_ _ _ (by first | (simp; done) | omega | (simp; omega)) | with_reducible refine Chg.setBlock ?_ _ _ (by first | (simp; done) | omega | (simp; omega)) | exact Chg.refl _ _))
  | false =>
    have hrl : (s.mates b).length = (s.row (b % s.sets)).length := rfl
    by_cases q3 : s.ways ≤ ((s.row (b % s.sets)).length : Int)
    · have hno : s.can b = false := by rw [hcan, hrl]; simp [q3]
      clear hcan
      go_enter Tryz.func132, Tryz.ntmps132
      go_wp2_with (first
        | (go_at_call 151; refine (row_calls b H.out).mono ?_; rintro e w1 ⟨rfl, n1, rfl⟩)
        | (go_at_call 130; refine (Has_in b (H.out.chg (S := fun _ => False) (by repeat (first | with_reducible exact Chg.refl _ _ | with_reducible exact chg0 | with_reducible refine Chg.drewN ?_ _ | with_reducible refine Chg.drew ?_ | with_reducible refine Chg.alloc ?_ _ | with_reducible refine Chg.setCell ?_ _ _ (by first | (simp; done) | omega | (simp; omega)) | with_reducible refine Chg.setBlock ?_ _ _ (by first | (simp; done) | omega | (simp; omega)) | exact Chg.refl _ _)) (fun _ _ h => h))).mono ?_; rintro e w1 ⟨rfl, n2, rfl⟩; rw [hh]))
      go_ret
      exact No.out hno _ (by repeat (first | with_reducible exact Chg.refl _ _ | with_reducible exact chg0 | with_reducible refine Chg.drewN ?_ _ | with_reducible refine Chg.drew ?_ | with_reducible refine Chg.alloc ?_ _ | with_reducible refine Chg.setCell ?_ _ _ (by first | (simp; done) | omega | (simp; omega)) | with_reducible refine Chg.setBlock ?_ _ _ (by first | (simp; done) | omega | (simp; omega)) | exact Chg.refl _ _))
    have q3' : decide (s.ways ≤ ((s.row (b % s.sets)).length : Int)) = false := by simpa using q3
    have hyes : s.can b = true := by rw [hcan, hh, hrl, q1', q3']; rfl
    have Yes := Lib.hid hyes
    clear hcan hyes
    go_enter Tryz.func132, Tryz.ntmps132
    go_wp2_with (first
      | (go_at_call 151; refine (row_calls b H.out).mono ?_; rintro e w1 ⟨rfl, n1, rfl⟩)
      | (go_at_call 130; refine (Has_in b (H.out.chg (S := fun _ => False) (by repeat (first | with_reducible exact Chg.refl _ _ | with_reducible exact chg0 | with_reducible refine Chg.drewN ?_ _ | with_reducible refine Chg.drew ?_ | with_reducible refine Chg.alloc ?_ _ | with_reducible refine Chg.setCell ?_ _ _ (by first | (simp; done) | omega | (simp; omega)) | with_reducible refine Chg.setBlock ?_ _ _ (by first | (simp; done) | omega | (simp; omega)) | exact Chg.refl _ _)) (fun _ _ h => h))).mono ?_; rintro e w1 ⟨rfl, n2, rfl⟩; rw [hh]))
    rw [← hA]
    clear hh q1' q3' hA1 hA hrl
    have hne := H.out.ne
    have np : (rowV f (b % s.sets)).ownBlock ≠ some p := fun e => by
      unfold rowV at e
      cases hk : f (b % s.sets) with
      | none => rw [hk] at e; simp [Value.ownBlock] at e
      | some u => rw [hk] at e; exact (hne.2 _ _ _ hk e).1 rfl
    have nm : (rowV f (b % s.sets)).ownBlock ≠ some mb := fun e => by
      unfold rowV at e
      cases hk : f (b % s.sets) with
      | none => rw [hk] at e; simp [Value.ownBlock] at e
      | some u => rw [hk] at e; exact (hne.2 _ _ _ hk e).2 rfl
    have s1 := H.out.ok.s1
    have s2 := H.out.ok.s2
    have c0 : w.cell? ⟨p, 0, none⟩ = some (.int .i64 s.sets) := cell_ob H.out.at_ _
    have hm := H.out.map
    have lm := ob_lt hm
    have w2' := H.out.ok.w2
    have rl : ((s.row (b % s.sets)).length : Int) ≤ s.ways := H.out.ok.room _
    obtain ⟨g, hg⟩ := Classical.axiomOfChoice (fun v : Value => H.out.obj.update tyIR (b % s.sets) v mb)
    have Hg := Lib.hid (fun v => (hg v).1)
    have hmu : ∀ (v : Value) (W : World), ob W mb = some o → (Instr.mapUpdate 207 (.map (some mb)) (.int .i64 (b % s.sets)) v).run Tryz.prog W = .ok () (setBlock W mb (g v)) := fun v => (hg v).2
    clear hg
    go_region_law (first
      | (go_simp; go_at_call 153; refine (setc_calls b s.sets (by first | assumption | simp [go_sem, c0, lp]) s1 s2).mono ?_; rintro e w1 ⟨rfl, rfl⟩)
      | (refine step_append_sl (xs := ints (s.row (b % s.sets))) (ys := [[.int .i64 b]]) rfl _ _ rfl tyInts rfl rfl ((H.out.row (b % s.sets)).chg (S := fun _ => False) (by repeat (first | with_reducible exact Chg.refl _ _ | with_reducible exact chg0 | with_reducible refine Chg.drewN ?_ _ | with_reducible refine Chg.drew ?_ | with_reducible refine Chg.alloc ?_ _ | with_reducible refine Chg.setCell ?_ _ _ (by first | (simp; done) | omega | (simp; omega)) | with_reducible refine Chg.setBlock ?_ _ _ (by first | (simp; done) | omega | (simp; omega)) | exact Chg.refl _ _)) (fun _ _ h => h)) (OwnSl.made (e := 3) (ob_alloc_new _ _ _ rfl) (ints_ok [b]) rfl (by simp)).slice (ints_ok [b]) (by simp; omega) ?_; intro v2 w2 ho hc hloc; have hsz := hc.size; have c0' : w2.cell? ⟨p, 0, none⟩ = some (.int .i64 s.sets) := (by rw [World.cell?_of_block (hc.block p (by simp [go_sem]; omega) np)]; simp [go_sem, c0, lp]); have c2' : w2.cell? ⟨p, 2, none⟩ = some (.map (some mb)) := (by rw [World.cell?_of_block (hc.block p (by simp [go_sem]; omega) np)]; simp [go_sem, c2, lp]); have hm' : ob w2 mb = some o := hc.ob (by simp [go_sem, hm, lm]) nm))
    all_goals
      go_wp2_with fail
      go_ret
      have hch : Chg (fun j => (rowV f (b % s.sets)).ownBlock = some j) w w2 := Chg.trans (S' := fun j => (rowV f (b % s.sets)).ownBlock = some j) (by repeat (first | with_reducible exact Chg.refl _ _ | with_reducible exact chg0 | with_reducible refine Chg.drewN ?_ _ | with_reducible refine Chg.drew ?_ | with_reducible refine Chg.alloc ?_ _ | with_reducible refine Chg.setCell ?_ _ _ (by first | (simp; done) | omega | (simp; omega)) | with_reducible refine Chg.setBlock ?_ _ _ (by first | (simp; done) | omega | (simp; omega)) | exact Chg.refl _ _)) hc (fun _ _ h => h)
      refine ⟨retb Yes.out.symm, lines_put H.out HF.out HFl.out (b % s.sets) v2 ?_ ?_ ?_ (Lines.add_ok H.out.ok b) ?_ hch ?_ (Hg.out v2)⟩
      · rw [Lines.add, if_pos Yes.out]
      · rw [Lines.add, if_pos Yes.out]
      · intro q hq
        rw [Lines.add, if_pos Yes.out, row_snoc, if_neg hq]
      · rw [Lines.add, if_pos Yes.out, row_snoc, if_pos rfl, ints_append]; exact ho
      · rcases hloc with hl | hl
        · exact .inl hl
        · refine .inr fun j hj => ?_
          rw [hl] at hj; injection hj with hj; rw [← hj]; simp
end
end Go.Proofs.YtchlioikkhnidaaGreat

/-
  The program's lines: Remove, Use, Victim.
-/
namespace Go.Proofs.YtchlioikkhnidaaGreat
open Go.RowKit Go.Sort
open Go.ChangeMaps (setBlock)
set_option linter.unusedVariables false
set_option linter.unusedSimpArgs false

section
variable {w : World} {p : Nat} {s : Lines} {F : Nat → Prop}

theorem lines_no {w1 : World} (h : LinesAt w p s F) (h1 : Chg (fun _ => False) w w1) : ∃ F', LinesAt w1 p s F' ∧ Moves w w1 F F' := ⟨F, h.chg h1 (fun _ _ h => h), Moves.none h1⟩

set_option maxHeartbeats 1000000 in
set_option maxRecDepth 20000 in
theorem Remove_calls (b : Int) (h : LinesAt w p s F) :
    Calls Tryz.prog 149 #[.pointer (some ⟨p, 0, none⟩), .int .i64 b] w fun e w' => e = .returned (.bool (s.has b)) ∧ ∃ F', LinesAt w' p (s.rem b) F' ∧ Moves w w' F F' := by
  have No := Lib.hid (fun (w1 : World) (h1 : Chg (fun _ => False) w w1) => lines_no h h1)
  obtain ⟨mb, o, f, h, hF, hFl⟩ := h
  have c2 : w.cell? ⟨p, 2, none⟩ = some (.map (some mb)) := cell_ob h.at_ _
  have lp := ob_lt h.at_
  have H := Lib.hid h
  have HF := Lib.hid hF
  have HFl := Lib.hid hFl
  have hr := h.row (b % s.sets)
  have HR := Lib.hid hr
  obtain ⟨A, cap, hA, hA1, hA2, _⟩ := sliceInts (H.out.row (b % s.sets)).slice
  have hpos := idxOf_at b (s.row (b % s.sets))
  have hmem : b ∈ s.row (b % s.sets) ↔ b ∈ s.all := s.mem_mates b
  clear h hF hFl hr
  cases hh : s.has b with
  | false =>
    have hn : ¬ b ∈ s.row (b % s.sets) := fun hm => by rw [(s.has_iff b).2 (hmem.1 hm)] at hh; cases hh
    have hpo : posOf (s.row (b % s.sets)) b = -1 := by unfold posOf; rw [hpos, if_neg hn]
    rw [s.rem_none b hh]
    clear hpos hmem hn
    go_enter Tryz.func149, Tryz.ntmps149
    go_wp2_with (first
      | (go_at_call 151; refine (row_calls b H.out).mono ?_; rintro e w1 ⟨rfl, n1, rfl⟩)
      | (go_at_call 159; refine (Index_calls (s.row (b % s.sets)) b _ _ (by rw [← hA]; exact HR.out.slice.below (Chg.below (by repeat (first | with_reducible exact Chg.refl _ _ | with_reducible exact chg0 | with_reducible refine Chg.drewN ?_ _ | with_reducible refine Chg.drew ?_ | with_reducible refine Chg.alloc ?_ _ | with_reducible refine Chg.setCell ?_ _ _ (by first | (simp; done) | omega | (simp; omega)) | with_reducible refine Chg.setBlock ?_ _ _ (by first | (simp; done) | omega | (simp; omega)) | exact Chg.refl _ _))))).mono ?_; rintro e w1 ⟨rfl, rfl⟩; rw [hpo]))
    go_ret
    exact ⟨rfl, No.out _ (by repeat (first | with_reducible exact Chg.refl _ _ | with_reducible exact chg0 | with_reducible refine Chg.drewN ?_ _ | with_reducible refine Chg.drew ?_ | with_reducible refine Chg.alloc ?_ _ | with_reducible refine Chg.setCell ?_ _ _ (by first | (simp; done) | omega | (simp; omega)) | with_reducible refine Chg.setBlock ?_ _ _ (by first | (simp; done) | omega | (simp; omega)) | exact Chg.refl _ _))⟩
  | true =>
    have hy : b ∈ s.row (b % s.sets) := hmem.2 ((s.has_iff b).1 hh)
    have hi := List.idxOf_lt_length_of_mem hy
    obtain ⟨i, ei⟩ : ∃ i, i = (s.row (b % s.sets)).idxOf b := ⟨_, rfl⟩
    have hpo : posOf (s.row (b % s.sets)) b = (i : Int) := by unfold posOf; rw [hpos, if_pos hy, ei]
    have her : (s.row (b % s.sets)).eraseIdx i = (s.row (b % s.sets)).erase b := by rw [ei]; exact eraseIdx_at b _ hy
    rw [← ei] at hi
    clear hpos hmem ei
    have hil : (i : Int) < ((s.row (b % s.sets)).length : Int) := by omega
    have w2' := H.out.ok.w2
    have rl : ((s.row (b % s.sets)).length : Int) ≤ s.ways := H.out.ok.room _
    have c0 : w.cell? ⟨p, 0, none⟩ = some (.int .i64 s.sets) := cell_ob H.out.at_ _
    have s1 := H.out.ok.s1
    have s2 := H.out.ok.s2
    have Her := Lib.hid her
    clear her
    have HD := Lib.hid (fun W (hW : OwnSl W 3 1 (rowV f (b % s.sets)) (ints (s.row (b % s.sets)))) => Delete_calls (s.row (b % s.sets)) i (rowV f (b % s.sets)) W hW hi)
    go_enter Tryz.func149, Tryz.ntmps149
    go_wp2_with (first
      | (go_at_call 151; refine (row_calls b H.out).mono ?_; rintro e w1 ⟨rfl, n1, rfl⟩)
      | (go_at_call 159; refine (Index_calls (s.row (b % s.sets)) b _ _ (by rw [← hA]; exact HR.out.slice.below (Chg.below (by repeat (first | with_reducible exact Chg.refl _ _ | with_reducible exact chg0 | with_reducible refine Chg.drewN ?_ _ | with_reducible refine Chg.drew ?_ | with_reducible refine Chg.alloc ?_ _ | with_reducible refine Chg.setCell ?_ _ _ (by first | (simp; done) | omega | (simp; omega)) | with_reducible refine Chg.setBlock ?_ _ _ (by first | (simp; done) | omega | (simp; omega)) | exact Chg.refl _ _))))).mono ?_; rintro e w1 ⟨rfl, rfl⟩; rw [hpo]))
    have hne := H.out.ne
    have np : ¬ (rowV f (b % s.sets)).ownBlock = some p := fun e => by
      unfold rowV at e
      cases hk : f (b % s.sets) with
      | none => rw [hk] at e; simp [Value.ownBlock] at e
      | some u => rw [hk] at e; exact (hne.2 _ _ _ hk e).1 rfl
    have nm : ¬ (rowV f (b % s.sets)).ownBlock = some mb := fun e => by
      unfold rowV at e
      cases hk : f (b % s.sets) with
      | none => rw [hk] at e; simp [Value.ownBlock] at e
      | some u => rw [hk] at e; exact (hne.2 _ _ _ hk e).2 rfl
    have hm := H.out.map
    have lm := ob_lt hm
    obtain ⟨g, hg⟩ := Classical.axiomOfChoice (fun v : Value => H.out.obj.update tyIR (b % s.sets) v mb)
    have Hg := Lib.hid (fun v => (hg v).1)
    have hmu : ∀ (v : Value) (W : World), ob W mb = some o → (Instr.mapUpdate 207 (.map (some mb)) (.int .i64 (b % s.sets)) v).run Tryz.prog W = .ok () (setBlock W mb (g v)) := fun v => (hg v).2
    clear hg hne
    rw [← hA]
    have hwr : IntKind.i64.wrap ((i : Int) + 1) = (i : Int) + 1 := by rw [IntKind.wrap_i64]; omega
    clear hA hA1 hA2 hil rl hi
    go_region_law (first
      | (go_simp; go_at_call 153; refine (setc_calls b s.sets (by first | assumption | simp [go_sem, c0, lp]) s1 s2).mono ?_; rintro e w1 ⟨rfl, rfl⟩)
      | (go_simp; go_at_call 160; refine (HD.out _ (HR.out.chg (S := fun _ => False) (by repeat (first | with_reducible exact Chg.refl _ _ | with_reducible exact chg0 | with_reducible refine Chg.drewN ?_ _ | with_reducible refine Chg.drew ?_ | with_reducible refine Chg.alloc ?_ _ | with_reducible refine Chg.setCell ?_ _ _ (by first | (simp; done) | omega | (simp; omega)) | with_reducible refine Chg.setBlock ?_ _ _ (by first | (simp; done) | omega | (simp; omega)) | exact Chg.refl _ _)) (fun _ _ h => h))).mono ?_; rintro e w2 ⟨v2, rfl, ho, hob, hc⟩; have hsz := hc.size; have c0' : w2.cell? ⟨p, 0, none⟩ = some (.int .i64 s.sets) := (by rw [World.cell?_of_block (hc.block p (by simp [go_sem]; omega) np)]; simp [go_sem, c0, lp]); have c2' : w2.cell? ⟨p, 2, none⟩ = some (.map (some mb)) := (by rw [World.cell?_of_block (hc.block p (by simp [go_sem]; omega) np)]; simp [go_sem, c2, lp]); have hm' : ob w2 mb = some o := hc.ob (by simp [go_sem, hm, lm]) nm))
    all_goals
      go_wp2_with fail
      go_ret
      have hch : Chg (fun j => (rowV f (b % s.sets)).ownBlock = some j) w w2 := Chg.trans (S' := fun j => (rowV f (b % s.sets)).ownBlock = some j) (by repeat (first | with_reducible exact Chg.refl _ _ | with_reducible exact chg0 | with_reducible refine Chg.drewN ?_ _ | with_reducible refine Chg.drew ?_ | with_reducible refine Chg.alloc ?_ _ | with_reducible refine Chg.setCell ?_ _ _ (by first | (simp; done) | omega | (simp; omega)) | with_reducible refine Chg.setBlock ?_ _ _ (by first | (simp; done) | omega | (simp; omega)) | exact Chg.refl _ _)) hc (fun _ _ h => h)
      refine ⟨rfl, lines_put H.out HF.out HFl.out (b % s.sets) v2 rfl rfl ?_ (Lines.rem_ok H.out.ok b) ?_ hch (.inl hob) (Hg.out v2)⟩
      · intro q hq
        rw [row_erase s H.out.ok.nodup, if_neg hq]
      · rw [row_erase s H.out.ok.nodup, if_pos rfl, ← Her.out]; exact ho

theorem Use_calls (b : Int) (h : LinesAt w p s F) :
    Calls Tryz.prog 125 #[.pointer (some ⟨p, 0, none⟩), .int .i64 b] w fun e w' => e = .returned (.bool (s.has b)) ∧ ∃ F', LinesAt w' p (s.use b) F' ∧ Moves w w' F F' := by
  have hu := Lines.use_eq h.ok b
  have hc := fun hb => Lines.can_rem h.ok b hb
  have H := Lib.hid h
  clear h
  cases hh : s.has b with
  | false =>
    rw [hh, if_neg (by decide)] at hu
    have hr := s.rem_none b hh
    clear hc
    go_enter Tryz.func125, Tryz.ntmps125
    go_wp2_with (go_at_call 149; refine (Remove_calls b H.out).mono ?_; rintro e w1 ⟨rfl, F1, h1, m1⟩; rw [hh])
    go_ret
    exact ⟨rfl, F1, by rw [hu, ← hr]; exact h1, m1⟩
  | true =>
    rw [hh, if_pos rfl] at hu
    have hc1 := hc hh
    clear hc
    go_enter Tryz.func125, Tryz.ntmps125
    go_wp2_with (first
      | (go_at_call 149; refine (Remove_calls b H.out).mono ?_; rintro e w1 ⟨rfl, F1, h1, m1⟩; rw [hh])
      | (go_at_call 132; refine (Add_calls b h1).mono ?_; rintro e w2 ⟨rfl, F2, h2, m2⟩; rw [hc1]))
    go_ret
    exact ⟨rfl, F2, by rw [hu]; exact h2, m1.trans m2⟩

set_option maxHeartbeats 1000000 in
theorem Victim_calls (b pinned : Int) (h : LinesAt w p s F) :
    Calls Tryz.prog 129 #[.pointer (some ⟨p, 0, none⟩), .int .i64 b, .int .i64 pinned] w fun e w' => e = .returned (.tuple #[.int .i64 (s.victim b pinned).1, .bool (s.victim b pinned).2]) ∧ ∃ n, w' = w.drewN n := by
  obtain ⟨mb, o, f, h, hF, hFl⟩ := h
  have c1 : w.cell? ⟨p, 1, none⟩ = some (.int .i64 s.ways) := cell_ob h.at_ _
  have H := Lib.hid h
  obtain ⟨A, cap, hA, hA1, hA2, hA3⟩ := sliceInts (H.out.row (b % s.sets)).slice
  have hrl : s.mates b = s.row (b % s.sets) := rfl
  clear hF hFl
  by_cases q1 : b < 0
  · have hv : s.victim b pinned = (-1, false) := by rw [Lines.victim, if_pos q1]
    rw [hv]
    clear h hrl hA3
    go_enter Tryz.func129, Tryz.ntmps129
    go_wp2_with (go_at_call 151; refine (row_calls b H.out).mono ?_; rintro e w1 ⟨rfl, n1, rfl⟩)
    go_ret2
    exact ⟨rfl, _, rfl⟩
  have q1' : decide (b < 0) = false := by simpa using q1
  have hv : s.victim b pinned = if s.has b || decide (((s.mates b).length : Int) < s.ways) then (-1, true) else firstNot pinned (s.mates b) := by rw [Lines.victim, if_neg q1]
  rw [hv, hrl]
  clear hv hrl h
  generalize s.row (b % s.sets) = R at *
  cases hh : s.has b with
  | true =>
    clear hA3
    go_enter Tryz.func129, Tryz.ntmps129
    go_wp2_with (first
      | (go_at_call 151; refine (row_calls b H.out).mono ?_; rintro e w1 ⟨rfl, n1, rfl⟩)
      | (go_at_call 130; refine (Has_in b (H.out.chg (S := fun _ => False) (by repeat (first | with_reducible exact Chg.refl _ _ | with_reducible exact chg0 | with_reducible refine Chg.drewN ?_ _ | with_reducible refine Chg.drew ?_ | with_reducible refine Chg.alloc ?_ _ | with_reducible refine Chg.setCell ?_ _ _ (by first | (simp; done) | omega | (simp; omega)) | with_reducible refine Chg.setBlock ?_ _ _ (by first | (simp; done) | omega | (simp; omega)) | exact Chg.refl _ _)) (fun _ _ h => h))).mono ?_; rintro e w1 ⟨rfl, n2, rfl⟩; rw [hh]))
    go_ret2
    exact ⟨rfl, _, rfl⟩
  | false =>
    by_cases q3 : (R.length : Int) < s.ways
    · have q3' : decide ((R.length : Int) < s.ways) = true := by simpa using q3
      rw [q3']
      clear hA3
      go_enter Tryz.func129, Tryz.ntmps129
      go_wp2_with (first
        | (go_at_call 151; refine (row_calls b H.out).mono ?_; rintro e w1 ⟨rfl, n1, rfl⟩)
        | (go_at_call 130; refine (Has_in b (H.out.chg (S := fun _ => False) (by repeat (first | with_reducible exact Chg.refl _ _ | with_reducible exact chg0 | with_reducible refine Chg.drewN ?_ _ | with_reducible refine Chg.drew ?_ | with_reducible refine Chg.alloc ?_ _ | with_reducible refine Chg.setCell ?_ _ _ (by first | (simp; done) | omega | (simp; omega)) | with_reducible refine Chg.setBlock ?_ _ _ (by first | (simp; done) | omega | (simp; omega)) | exact Chg.refl _ _)) (fun _ _ h => h))).mono ?_; rintro e w1 ⟨rfl, n2, rfl⟩; rw [hh]))
      go_ret2
      exact ⟨rfl, _, rfl⟩
    have q3' : decide ((R.length : Int) < s.ways) = false := by simpa using q3
    rw [q3']
    simp only [Bool.or_self, Bool.false_eq_true, if_false]
    have HA := Lib.hid hA3
    clear hA3
    go_enter Tryz.func129, Tryz.ntmps129
    go_wp2_with (first
      | (go_at_call 151; refine (row_calls b H.out).mono ?_; rintro e w1 ⟨rfl, n1, rfl⟩)
      | (go_at_call 130; refine (Has_in b (H.out.chg (S := fun _ => False) (by repeat (first | with_reducible exact Chg.refl _ _ | with_reducible exact chg0 | with_reducible refine Chg.drewN ?_ _ | with_reducible refine Chg.drew ?_ | with_reducible refine Chg.alloc ?_ _ | with_reducible refine Chg.setCell ?_ _ _ (by first | (simp; done) | omega | (simp; omega)) | with_reducible refine Chg.setBlock ?_ _ _ (by first | (simp; done) | omega | (simp; omega)) | exact Chg.refl _ _)) (fun _ _ h => h))).mono ?_; rintro e w1 ⟨rfl, n2, rfl⟩; rw [hh]))
    generalize hW : w.drewN (n1 + n2) = W
    have hcell : ∀ a, W.cell? a = w.cell? a := fun a => by rw [← hW]; rfl
    have Hcell := Lib.hid hcell
    clear hcell
    go_loop [30] (fun i => ∃ k : Nat, k ≤ R.length ∧ i = .int .i64 k ∧ firstNot pinned R = firstNot pinned (R.drop k)) (fun i => R.length - (intOf i).toNat)
    case atStart => exact ⟨0, Nat.zero_le _, rfl, rfl⟩
    case round =>
      obtain ⟨k, hk, rfl, hf⟩ := hrel
      have Hf := Lib.hid hf
      clear hf
      by_cases hlt : k < R.length
      · obtain ⟨q, off, rfl, hc⟩ := HA.out (by omega)
        have hck : W.cell? ⟨q, off + k, none⟩ = some (.int .i64 (R.getD k 0)) := by rw [Hcell.out]; exact hc k hlt
        have hd : R.drop k = R.getD k 0 :: R.drop (k + 1) := by rw [List.drop_eq_getElem_cons hlt]; simp [List.getD, hlt]
        have Hd := Lib.hid hd
        clear hd hc
        generalize R.getD k 0 = x at *
        by_cases hx : x = pinned
        · have hx' : (x != pinned) = false := by simpa using hx
          go_wp2_with fail
          exact ⟨⟨k + 1, by omega, by go_num, by rw [Hf.out, Hd.out, firstNot, if_pos hx]⟩, by simp [intOf]; omega⟩
        · have hx' : (x != pinned) = true := by simpa using hx
          go_wp2_with fail
          go_ret2
          rw [Hf.out, Hd.out, firstNot, if_neg hx]
          exact ⟨rfl, _, hW.symm⟩
      · go_wp2_with fail
        go_ret2
        rw [Hf.out, List.drop_of_length_le (by omega)]
        exact ⟨rfl, _, hW.symm⟩
end
end Go.Proofs.YtchlioikkhnidaaGreat

/-
  The program's lines: List, Copy.
-/
namespace Go.Proofs.YtchlioikkhnidaaGreat
open Go.RowKit Go.Sort
open Go.ChangeMaps (setBlock)
set_option linter.unusedVariables false
set_option linter.unusedSimpArgs false

section
variable {w : World} {p : Nat} {s : Lines} {F : Nat → Prop}

/-- When all keys were handed out, all blocks were. -/
theorem LinesIn.whole {mb : Nat} {o : Obj} {f : Int → Option Value} (h : LinesIn w p mb o f s) (D : List Int) (hD : D.Nodup) (hd : ∀ k v, f k = some v → k ∈ D) : (D.map s.row).flatten.Perm s.all := by
  have h1 := rows_perm s D hD
  rw [List.filter_eq_self.2] at h1
  · exact h1
  · intro b hb
    rw [decide_eq_true_eq]
    cases hf : f (b % s.sets) with
    | some v => exact hd _ v hf
    | none =>
      have := h.nil _ hf
      have hm := (s.mem_mates b).2 hb
      unfold Lines.mates at hm
      rw [this] at hm; cases hm
theorem rows_few (h : s.Ok) (D : List Int) (hD : D.Nodup) : (D.map s.row).flatten.length ≤ 1024 := by
  rw [(rows_perm s D hD).length_eq]
  have := List.length_filter_le (fun b => decide (b % s.sets ∈ D)) s.all
  have := Lines.few h
  omega

set_option maxHeartbeats 1000000 in
set_option maxRecDepth 20000 in
theorem List_calls (h : LinesAt w p s F) :
    Calls Tryz.prog 96 #[.pointer (some ⟨p, 0, none⟩)] w fun e w' => ∃ v, e = .returned v ∧ OwnSl w' 3 1 v (ints s.list) ∧ (∀ k, v.ownBlock = some k → w.heap.size ≤ k) ∧ Below w.heap.size w w' := by
  obtain ⟨mb, o, f, h, hF, hFl⟩ := h
  have c2 : w.cell? ⟨p, 2, none⟩ = some (.map (some mb)) := cell_ob h.at_ _
  have H := Lib.hid h
  obtain ⟨io, hio, hit⟩ := h.obj.range (P := Tryz.prog) tyIR mb w h.map
  have Hit := Lib.hid hit
  have lm := ob_lt h.map
  clear h hF hFl hit
  go_enter Tryz.func96, Tryz.ntmps96
  go_wp2_with fail
  have hne : w.heap.size ≠ mb := by omega
  go_loopw [3] (fun v wr => ∃ (D : List Int), D.Nodup ∧ (∀ k ∈ D, f k ≠ none) ∧ IterAt wr w.heap.size mb o D ∧ LinesIn wr p mb o f s ∧ OwnSl wr 3 1 v (ints ((D.map s.row).flatten)) ∧ (∀ j, v.ownBlock = some j → w.heap.size < j) ∧ Below w.heap.size w wr) (fun _ W => leftN W w.heap.size mb)
  case atStart => exact ⟨[], List.nodup_nil, by simp, Hit.out, H.out.chg (S := fun _ => False) (by repeat (first | with_reducible exact Chg.refl _ _ | with_reducible exact chg0 | with_reducible refine Chg.drewN ?_ _ | with_reducible refine Chg.drew ?_ | with_reducible refine Chg.alloc ?_ _ | with_reducible refine Chg.setCell ?_ _ _ (by first | (simp; done) | omega | (simp; omega)) | with_reducible refine Chg.setBlock ?_ _ _ (by first | (simp; done) | omega | (simp; omega)) | exact Chg.refl _ _)) (fun _ _ h => h), OwnSl.nil, fun j hj => by simp [Value.ownBlock] at hj, Chg.below (by repeat (first | with_reducible exact Chg.refl _ _ | with_reducible exact chg0 | with_reducible refine Chg.drewN ?_ _ | with_reducible refine Chg.drew ?_ | with_reducible refine Chg.alloc ?_ _ | with_reducible refine Chg.setCell ?_ _ _ (by first | (simp; done) | omega | (simp; omega)) | with_reducible refine Chg.setBlock ?_ _ _ (by first | (simp; done) | omega | (simp; omega)) | exact Chg.refl _ _))⟩
  case round =>
    obtain ⟨D, hD, hDf, hi, hl, hown, hlo, hb⟩ := hrel
    have Hi := Lib.hid hi
    have HDf := Lib.hid hDf
    have Hl := Lib.hid hl
    have Hown := Lib.hid hown
    have Hlo := Lib.hid hlo
    have Hb := Lib.hid hb
    have sr := hb.size
    have lir : w.heap.size < wr.heap.size := by obtain ⟨_, _, _, _, _, _, h, _⟩ := hi; exact ob_lt h
    clear hi hDf hl hown hlo hb Hit
    rcases IterAt.next (P := Tryz.prog) H.out.obj Hi.out hne with ⟨hdone, hrun⟩ | ⟨k, v, w2, hfk, hkD, hrun, hc, hsz, hit2, io2, hio2, hent⟩
    · have hfew := rows_few H.out.ok D hD
      have hperm := sort_perm (H.out.whole D hD hdone)
      clear hdone
      go_wp2_with fail
      refine (Sort_calls _ u3 _ Hown.out (by omega)).mono ?_
      rintro e w4 ⟨rfl, ho, hc⟩
      rw [hperm] at ho
      go_wp2_with fail
      go_ret
      exact ⟨u3, rfl, ho, fun k hk => Nat.le_of_lt (Hlo.out k hk), below_chg Hb.out hc (fun k hk e => by have := Hlo.out k e; omega)⟩
    · have hent1 := fun W h1 h2 => (hent W h1 h2).1
      have Hent := Lib.hid (fun W h1 h2 => (hent W h1 h2).2)
      have hm2 : ob w2 mb = some o := hc.ob Hl.out.map (Ne.symm hne)
      have hD' : (D ++ [k]).Nodup := by rw [List.nodup_append]; exact ⟨hD, by simp, fun a ha c hc => by simp at hc; subst hc; exact fun e => hkD (e ▸ ha)⟩
      have hfew := rows_few H.out.ok (D ++ [k]) hD'
      have hov : OwnSl w2 3 1 v (ints (s.row k)) := (Hl.out.rows k v hfk).chg hc fun j hj e => by
        have := (H.out.rows k v hfk).lt hj; omega
      have Hov := Lib.hid hov
      have Hfk := Lib.hid hfk
      rw [List.map_append, List.flatten_append, List.length_append] at hfew
      have hl1 : ([k].map s.row).flatten = s.row k := by simp
      rw [hl1] at hfew
      clear hent hov hfk hio hkD
      go_wp2_with (at_builtin; refine wpList_append_sl (xs := ints ((D.map s.row).flatten)) (ys := ints (s.row k)) rfl _ _ rfl tyInts rfl rfl (Hown.out.chg hc (fun j hj e => by have := Hlo.out j hj; omega)) Hov.out.slice (ints_ok _) (by simp only [ints_length]; omega) ?_; intro v5 w5 ho hc5 hloc)
      have hcc : Chg (fun j => j = w.heap.size ∨ u3.ownBlock = some j) wr w5 := Chg.trans (S' := fun j => u3.ownBlock = some j) (hc.mono fun _ _ h => .inl h) hc5 (fun _ _ h => .inr h)
      have hsz5 := hc5.size
      have q1 : ob w5 w.heap.size = some io2 := hc5.ob hio2 (fun e => by have := Hlo.out _ e; omega)
      have q2 : ob w5 mb = some o := hc5.ob hm2 (fun e => by have := Hlo.out _ e; omega)
      refine ⟨⟨D ++ [k], hD', ?_, ?_, ?_, ?_, ?_, ?_⟩, Hent.out w5 q1 q2⟩
      · intro q hq
        rcases List.mem_append.1 hq with hq | hq
        · exact HDf.out q hq
        · simp at hq; subst hq; rw [Hfk.out]; exact fun e => by cases e
      · exact hit2.chg hc5 (fun e => by have := Hlo.out _ e; omega) (fun e => by have := Hlo.out _ e; omega)
      · refine Hl.out.chg hcc ?_
        rintro j hj (e | e)
        · have : j < w.heap.size := by
            rcases hj with rfl | rfl | ⟨q, u, hq, hj⟩
            · exact ob_lt H.out.at_
            · exact lm
            · exact (H.out.rows q u hq).lt hj
          omega
        · have : j < w.heap.size := by
            rcases hj with rfl | rfl | ⟨q, u, hq, hj⟩
            · exact ob_lt H.out.at_
            · exact lm
            · exact (H.out.rows q u hq).lt hj
          have := Hlo.out j e
          omega
      · rw [List.map_append, List.flatten_append, hl1, ints_append]; exact ho
      · intro j hj
        rcases hloc with h | h
        · rw [h] at hj; exact Hlo.out j hj
        · rw [h] at hj; injection hj with hj; rw [← hj]; omega
      · refine below_chg Hb.out hcc ?_
        rintro j hj (e | e)
        · omega
        · have := Hlo.out j e; omega
end
end Go.Proofs.YtchlioikkhnidaaGreat

/-
  The program's lines: Copy.
-/
namespace Go.Proofs.YtchlioikkhnidaaGreat
open Go.RowKit Go.Sort
open Go.ChangeMaps (setBlock)
set_option linter.unusedVariables false
set_option linter.unusedSimpArgs false

/-- The lines of some sets alone. -/
def Lines.only (s : Lines) (D : List Int) : Lines := { s with all := s.all.filter fun b => decide (b % s.sets ∈ D) }
theorem only_row (s : Lines) (D : List Int) (k : Int) : (s.only D).row k = if k ∈ D then s.row k else [] := by
  simp only [Lines.row, Lines.only, List.filter_filter]
  by_cases h : k ∈ D
  · rw [if_pos h]
    apply List.filter_congr
    intro b _
    by_cases hb : b % s.sets = k
    · simp [hb, h]
    · simp [hb]
  · rw [if_neg h, List.filter_eq_nil_iff]
    intro b _
    rw [Bool.and_eq_true]
    rintro ⟨h1, h2⟩
    exact h (of_decide_eq_true h1 ▸ of_decide_eq_true h2)
theorem only_ok {s : Lines} (h : s.Ok) (D : List Int) : (s.only D).Ok := by
  refine ⟨h.s1, h.s2, h.w1, h.w2, h.nodup.sublist List.filter_sublist, fun b hb => h.pos b ((List.mem_filter.1 hb).1), fun k => ?_⟩
  rw [only_row]
  have := h.room k
  have := h.w1
  split
  · assumption
  · show ((0 : Nat) : Int) ≤ s.ways
    omega
theorem only_nil (s : Lines) : s.only [] = { s with all := [] } := by
  unfold Lines.only
  congr 1
  rw [List.filter_eq_nil_iff]
  intro b _; simp
theorem new_of_ok {s : Lines} (h : s.Ok) : Lines.new s.sets s.ways = { s with all := [] } := by
  have := h.s1
  have := h.s2
  have := h.w1
  have := h.w2
  unfold Lines.new clampI
  congr 1 <;> omega

section
variable {w : World} {p : Nat} {s : Lines} {F : Nat → Prop}

set_option maxHeartbeats 1000000 in
set_option maxRecDepth 20000 in
theorem Copy_calls (h : LinesAt w p s F) :
    Calls Tryz.prog 117 #[.pointer (some ⟨p, 0, none⟩)] w fun e w' => ∃ p' F', e = .returned (.pointer (some ⟨p', 0, none⟩)) ∧ LinesAt w' p' s F' ∧ (∀ j, F' j → w.heap.size ≤ j) ∧ Below w.heap.size w w' := by
  obtain ⟨mb, o, f, h, hF, hFl⟩ := h
  have c0 : w.cell? ⟨p, 0, none⟩ = some (.int .i64 s.sets) := cell_ob h.at_ _
  have c1 : w.cell? ⟨p, 1, none⟩ = some (.int .i64 s.ways) := cell_ob h.at_ _
  have H := Lib.hid h
  have Hnew := Lib.hid (new_of_ok h.ok)
  have lm := ob_lt h.map
  have lp := ob_lt h.at_
  have lall : ∀ j, lnFp p mb f j → j < w.heap.size := by
    rintro j (rfl | rfl | ⟨q, u, hq, hj⟩)
    · exact lp
    · exact lm
    · exact (h.rows q u hq).lt hj
  have Lall := Lib.hid lall
  clear h hF hFl lall
  go_enter Tryz.func117, Tryz.ntmps117
  go_wp2_with fail
  go_still_tail 8, (by kernel_rfl)
  go_wp2_with fail
  refine (LinesNew_calls s.sets s.ways _).mono ?_
  rintro e w1 ⟨p', F1, rfl, hp', hF1, hb1'⟩
  have hb1 : Below w.heap.size w w1 := below_trans (Chg.below (by repeat (first | with_reducible exact Chg.refl _ _ | with_reducible exact chg0 | with_reducible refine Chg.drewN ?_ _ | with_reducible refine Chg.drew ?_ | with_reducible refine Chg.alloc ?_ _ | with_reducible refine Chg.setCell ?_ _ _ (by first | (simp; done) | omega | (simp; omega)) | with_reducible refine Chg.setBlock ?_ _ _ (by first | (simp; done) | omega | (simp; omega)) | exact Chg.refl _ _))) hb1'
  clear hb1'
  rw [Hnew.out, ← only_nil] at hp'
  have s1 := hb1.size
  have H1 := Lib.hid (H.out.chg (S := fun _ => False) (Chg.of_below hb1) (fun _ _ h => h))
  have c2 : w1.cell? ⟨p, 2, none⟩ = some (.map (some mb)) := cell_ob H1.out.at_ _
  obtain ⟨io, hio, hit⟩ := H1.out.obj.range (P := Tryz.prog) tyIR mb w1 H1.out.map
  have Hit := Lib.hid hit
  have HF1 := Lib.hid hF1
  have Hp' := Lib.hid hp'
  have Hb1 := Lib.hid hb1
  clear hit hF1 hp' hb1
  go_wp2_with fail
  have hne : w1.heap.size ≠ mb := by omega
  go_loopw [21] (fun _ wr => ∃ (D : List Int) (F2 : Nat → Prop), D.Nodup ∧ IterAt wr w1.heap.size mb o D ∧ LinesIn wr p mb o f s ∧ LinesAt wr p' (s.only D) F2 ∧ (∀ j, F2 j → w.heap.size ≤ j ∧ j ≠ w1.heap.size) ∧ Below w.heap.size w wr) (fun _ W => leftN W w1.heap.size mb)
  case atStart =>
    refine ⟨[], F1, List.nodup_nil, Hit.out, H1.out.chg (S := fun _ => False) (by repeat (first | with_reducible exact Chg.refl _ _ | with_reducible exact chg0 | with_reducible refine Chg.drewN ?_ _ | with_reducible refine Chg.drew ?_ | with_reducible refine Chg.alloc ?_ _ | with_reducible refine Chg.setCell ?_ _ _ (by first | (simp; done) | omega | (simp; omega)) | with_reducible refine Chg.setBlock ?_ _ _ (by first | (simp; done) | omega | (simp; omega)) | exact Chg.refl _ _)) (fun _ _ h => h), Hp'.out.chg (S := fun _ => False) (by repeat (first | with_reducible exact Chg.refl _ _ | with_reducible exact chg0 | with_reducible refine Chg.drewN ?_ _ | with_reducible refine Chg.drew ?_ | with_reducible refine Chg.alloc ?_ _ | with_reducible refine Chg.setCell ?_ _ _ (by first | (simp; done) | omega | (simp; omega)) | with_reducible refine Chg.setBlock ?_ _ _ (by first | (simp; done) | omega | (simp; omega)) | exact Chg.refl _ _)) (fun _ _ h => h), fun j hj => ⟨HF1.out j hj, ?_⟩, below_trans Hb1.out (Chg.below (by repeat (first | with_reducible exact Chg.refl _ _ | with_reducible exact chg0 | with_reducible refine Chg.drewN ?_ _ | with_reducible refine Chg.drew ?_ | with_reducible refine Chg.alloc ?_ _ | with_reducible refine Chg.setCell ?_ _ _ (by first | (simp; done) | omega | (simp; omega)) | with_reducible refine Chg.setBlock ?_ _ _ (by first | (simp; done) | omega | (simp; omega)) | exact Chg.refl _ _)))⟩
    obtain ⟨_, _, _, _, _, h3⟩ := Hp'.out
    have := h3 j hj; omega
  case round =>
    obtain ⟨D, F2, hD, hi, hl, hq, hF2, hb⟩ := hrel
    have sr := hb.size
    have lir : w1.heap.size < wr.heap.size := by obtain ⟨_, _, _, _, _, _, h, _⟩ := hi; exact ob_lt h
    have Hi := Lib.hid hi
    have Hl := Lib.hid hl
    have Hq := Lib.hid hq
    have HF2 := Lib.hid hF2
    have Hb := Lib.hid hb
    clear hi hl hq hF2 hb Hit Hp' HF1 Hb1
    rcases IterAt.next (P := Tryz.prog) H.out.obj Hi.out hne with ⟨hdone, hrun⟩ | ⟨k, v, w2, hfk, hkD, hrun, hc, hsz, hit2, io2, hio2, hent⟩
    · have hperm := H.out.whole D hD hdone
      clear hdone hio
      go_wp2_with fail
      go_ret
      refine ⟨p', F2, rfl, ?_, fun j hj => (HF2.out j hj).1, Hb.out⟩
      have : s.only D = s := by
        unfold Lines.only
        congr 1
        rw [List.filter_eq_self]
        intro b hb
        have := hperm.mem_iff.2 hb
        obtain ⟨l, hl, hbl⟩ := List.mem_flatten.1 this
        obtain ⟨k, hk, rfl⟩ := List.mem_map.1 hl
        simp only [Lines.row, List.mem_filter, decide_eq_true_eq] at hbl
        rw [decide_eq_true_eq, hbl.2]; exact hk
      rw [this] at Hq
      exact Hq.out
    · have hent1 := fun W h1 h2 => (hent W h1 h2).1
      have Hent := Lib.hid (fun W h1 h2 => (hent W h1 h2).2)
      have hm2 : ob w2 mb = some o := hc.ob Hl.out.map (Ne.symm hne)
      have hD' : (D ++ [k]).Nodup := by rw [List.nodup_append]; exact ⟨hD, by simp, fun a ha c hc => by simp at hc; subst hc; exact fun e => hkD (e ▸ ha)⟩
      have hov : OwnSl w2 3 1 v (ints (s.row k)) := (Hl.out.rows k v hfk).chg hc fun j hj e => by
        have := (H.out.rows k v hfk).lt hj; omega
      have hq2 : LinesAt w2 p' (s.only D) F2 := Hq.out.chg hc fun j hj e => (HF2.out j hj).2 e
      obtain ⟨mb', o', f', hin, hinF, hinL⟩ := hq2
      have c2' : w2.cell? ⟨p', 2, none⟩ = some (.map (some mb')) := cell_ob hin.at_ _
      have hm' := hin.map
      have lp' := ob_lt hin.at_
      have lm' := ob_lt hm'
      have hrl : (s.row k).length ≤ 1000000 := by have := H.out.ok.room k; have := H.out.ok.w2; omega
      have Hov := Lib.hid hov
      obtain ⟨g, hg⟩ := Classical.axiomOfChoice (fun v : Value => hin.obj.update tyIR k v mb')
      have Hg := Lib.hid (fun v => (hg v).1)
      have hmu : ∀ (v : Value) (W : World), ob W mb' = some o' → (Instr.mapUpdate 207 (.map (some mb')) (.int .i64 k) v).run Tryz.prog W = .ok () (setBlock W mb' (g v)) := fun v => (hg v).2
      have Hin := Lib.hid hin
      have HinF := Lib.hid hinF
      have HinL := Lib.hid hinL
      have HkD := Lib.hid hkD
      clear hent hov hfk hio hkD hg hin hinF hinL
      go_wp2_with fail
      go_region_law (go_simp; go_at_call 144; refine (Clone_calls (s.row k) v _ (Hov.out.slice.below (Chg.below (by repeat (first | with_reducible exact Chg.refl _ _ | with_reducible exact chg0 | with_reducible refine Chg.drewN ?_ _ | with_reducible refine Chg.drew ?_ | with_reducible refine Chg.alloc ?_ _ | with_reducible refine Chg.setCell ?_ _ _ (by first | (simp; done) | omega | (simp; omega)) | with_reducible refine Chg.setBlock ?_ _ _ (by first | (simp; done) | omega | (simp; omega)) | exact Chg.refl _ _)))) hrl).mono ?_; rintro e w5 ⟨v5, rfl, ho5, hlo5, hb5⟩; have hsz5 := hb5.size; have c2'' : w5.cell? ⟨p', 2, none⟩ = some (.map (some mb')) := (by rw [hb5.cell (by simp; omega)]; simp [go_sem, c2']); have hm5 : ob w5 mb' = some o' := (Chg.of_below (S := fun _ => False) hb5).ob (by simp [go_sem, hm']) (fun h => h))
      all_goals
        go_wp2_with fail
        have hch : Chg (fun j => (rowV f' k).ownBlock = some j) w2 w5 := Chg.of_below (below_trans (Chg.below (by repeat (first | with_reducible exact Chg.refl _ _ | with_reducible exact chg0 | with_reducible refine Chg.drewN ?_ _ | with_reducible refine Chg.drew ?_ | with_reducible refine Chg.alloc ?_ _ | with_reducible refine Chg.setCell ?_ _ _ (by first | (simp; done) | omega | (simp; omega)) | with_reducible refine Chg.setBlock ?_ _ _ (by first | (simp; done) | omega | (simp; omega)) | exact Chg.refl _ _))) hb5)
        obtain ⟨F3, hat, hmv⟩ := lines_put (s' := s.only (D ++ [k])) (o2 := g v5) Hin.out HinF.out HinL.out k v5 rfl rfl
          (fun q hq => by rw [only_row, only_row]; simp [hq]) (only_ok H.out.ok _) (by rw [only_row, if_pos (by simp)]; exact ho5) hch (.inr fun j hj => by have := hlo5 j hj; simpa using this) (Hg.out v5)
        have hnr : ¬ F2 w1.heap.size := fun h => (HF2.out _ h).2 rfl
        have hnm : ¬ F2 mb := fun h => by have := (HF2.out _ h).1; omega
        refine ⟨⟨D ++ [k], F3, hD', hit2.chg hmv.chg hnr hnm, ?_, hat, ?_, ?_⟩, Hent.out _ (hmv.chg.ob hio2 hnr) (hmv.chg.ob hm2 hnm)⟩
        · refine (Hl.out.chg hc fun j hj e => ?_).chg hmv.chg fun j hj e => ?_
          · have := Lall.out j hj; omega
          · have := Lall.out j hj
            have := (HF2.out j e).1; omega
        · intro j hj
          rcases hmv.fresh j hj with h | h
          · exact HF2.out j h
          · omega
        · exact below_chg (below_chg Hb.out hc fun j hj e => by omega) hmv.chg fun j hj e => by have := (HF2.out j e).1; omega
end
end Go.Proofs.YtchlioikkhnidaaGreat
