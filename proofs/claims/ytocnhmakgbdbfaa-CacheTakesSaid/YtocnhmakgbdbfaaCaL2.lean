/-
  CacheTakes: what is taken of a block's tokens, and what stays, is what the document gives away, and keeps. No condition.
-/
import Derived.Test.YtocnhmakgbdbfaaCaL
import Derived.Test.YtocnhmakgbdbfaaCaP3
import Derived.Test.YtocnhmakgbdbfaaCa2
import Derived.Outline
namespace Go.Proofs.Ytocnhmakgbdbfaa
open Go.RowKit Go.Sort Go.ChangeShapes Go.WideShapes Go.ChangeAt
open Go.ChangeMaps (setBlock)
set_option linter.unusedVariables false
set_option linter.unusedSimpArgs false

theorem keep14 {S : Nat → Prop} {w w' : World} {k1 k2 k3 k4 : Nat} {a0 a1 b0 b1 b2 b3 c0 c1 c2 c3 d0 d1 d2 d3 : Value} (hc : Chg S w w') (h1 : ¬ S k1) (h2 : ¬ S k2) (h3 : ¬ S k3) (h4 : ¬ S k4) (h : w.cell? ⟨k1, 0, none⟩ = some a0 ∧ w.cell? ⟨k1, 1, none⟩ = some a1 ∧ w.cell? ⟨k2, 0, none⟩ = some b0 ∧ w.cell? ⟨k2, 1, none⟩ = some b1 ∧ w.cell? ⟨k2, 2, none⟩ = some b2 ∧ w.cell? ⟨k2, 3, none⟩ = some b3 ∧ w.cell? ⟨k3, 0, none⟩ = some c0 ∧ w.cell? ⟨k3, 1, none⟩ = some c1 ∧ w.cell? ⟨k3, 2, none⟩ = some c2 ∧ w.cell? ⟨k3, 3, none⟩ = some c3 ∧ w.cell? ⟨k4, 0, none⟩ = some d0 ∧ w.cell? ⟨k4, 1, none⟩ = some d1 ∧ w.cell? ⟨k4, 2, none⟩ = some d2 ∧ w.cell? ⟨k4, 3, none⟩ = some d3) :
    w'.cell? ⟨k1, 0, none⟩ = some a0 ∧ w'.cell? ⟨k1, 1, none⟩ = some a1 ∧ w'.cell? ⟨k2, 0, none⟩ = some b0 ∧ w'.cell? ⟨k2, 1, none⟩ = some b1 ∧ w'.cell? ⟨k2, 2, none⟩ = some b2 ∧ w'.cell? ⟨k2, 3, none⟩ = some b3 ∧ w'.cell? ⟨k3, 0, none⟩ = some c0 ∧ w'.cell? ⟨k3, 1, none⟩ = some c1 ∧ w'.cell? ⟨k3, 2, none⟩ = some c2 ∧ w'.cell? ⟨k3, 3, none⟩ = some c3 ∧ w'.cell? ⟨k4, 0, none⟩ = some d0 ∧ w'.cell? ⟨k4, 1, none⟩ = some d1 ∧ w'.cell? ⟨k4, 2, none⟩ = some d2 ∧ w'.cell? ⟨k4, 3, none⟩ = some d3 :=
  ⟨hc.cell h.1 h1, hc.cell h.2.1 h1, hc.cell h.2.2.1 h2, hc.cell h.2.2.2.1 h2, hc.cell h.2.2.2.2.1 h2, hc.cell h.2.2.2.2.2.1 h2, hc.cell h.2.2.2.2.2.2.1 h3, hc.cell h.2.2.2.2.2.2.2.1 h3, hc.cell h.2.2.2.2.2.2.2.2.1 h3, hc.cell h.2.2.2.2.2.2.2.2.2.1 h3, hc.cell h.2.2.2.2.2.2.2.2.2.2.1 h4, hc.cell h.2.2.2.2.2.2.2.2.2.2.2.1 h4, hc.cell h.2.2.2.2.2.2.2.2.2.2.2.2.1 h4, hc.cell h.2.2.2.2.2.2.2.2.2.2.2.2.2 h4⟩

set_option maxHeartbeats 4000000 in
set_option maxRecDepth 20000 in
theorem cacheTakes_walk (h : Bundle) (hh : h.ok) (count : Int) (hcnt : i64ok count) (how : Flags) (hw : how.ok) (w : World) :
    Calls Try.prog 10 #[h.val, .int .i64 count, how.val] w fun e w' => e = .returned (.bool true) ∧ Below w.heap.size w w' := by
  clear hh hcnt hw
  have hchk := Lib.hid (@Bundle.check_zero h 1048576)
  have hRR := Lib.hid (RefRight_calls h 1048576)
  obtain ⟨w0, w1'⟩ := how
  simp only [Bundle.val, Bundle.cells, Flags.val, Flags.cells]
  go_enter Try.func10, Try.ntmps10
  go_wp2_with fail
  refine (caAwake_calls _).mono ?_
  rintro e w1 ⟨rfl, hb1⟩
  have o0 : ob w1 w.heap.size = some (.cells #[.int .i64 h.count, .bool h.owner, .bool h.has, .int .i64 h.data] 47 (0, 0)) := (Chg.of_below (S := fun _ => False) hb1).ob (by simp [go_sem]) (fun h => h)
  have f0 : w1.cell? ⟨w.heap.size + 1, 0, none⟩ = some (.bool w0) := by rw [hb1.cell (by simp)]; simp [go_sem]
  have f1 : w1.cell? ⟨w.heap.size + 1, 1, none⟩ = some (.bool w1') := by rw [hb1.cell (by simp)]; simp [go_sem]
  have b1 : Below w.heap.size w w1 := below_trans (Chg.below (by repeat (first | with_reducible exact Chg.refl _ _ | with_reducible exact chg0 | with_reducible refine Chg.drewN ?_ _ | with_reducible refine Chg.drew ?_ | with_reducible refine Chg.alloc ?_ _ | with_reducible refine Chg.setCell ?_ _ _ (by first | (simp; done) | omega | (simp; omega)) | with_reducible refine Chg.setBlock ?_ _ _ (by first | (simp; done) | omega | (simp; omega)) | exact Chg.refl _ _))) hb1
  have B1 := Lib.hid b1
  obtain ⟨a0, a1, a2, a3, af⟩ := ob_cells4 o0
  have l0 := ob_lt o0
  have l1 := World.block_lt_of_cell? w1 _ f0
  simp only at l1
  clear hb1 b1
  go_wp2_with fail
  refine (hRR.out _).mono ?_
  rintro e w2 ⟨rfl, hb2⟩
  have hb2' : Below w1.heap.size w1 w2 := below_trans (Chg.below (by repeat (first | with_reducible exact Chg.refl _ _ | with_reducible exact chg0 | with_reducible refine Chg.drewN ?_ _ | with_reducible refine Chg.drew ?_ | with_reducible refine Chg.alloc ?_ _ | with_reducible refine Chg.setCell ?_ _ _ (by first | (simp; done) | omega | (simp; omega)) | with_reducible refine Chg.setBlock ?_ _ _ (by first | (simp; done) | omega | (simp; omega)) | exact Chg.refl _ _))) hb2
  obtain ⟨r, hr⟩ : ∃ r, r = decide (h.check 1048576 = 0) := ⟨_, rfl⟩
  rw [← hr]
  have HR := Lib.hid hr
  clear hr
  cases r
  · go_wp2_with fail
    refine (caAwake_calls _).mono ?_
    rintro e w3 ⟨rfl, hb3⟩
    go_wp2_with fail
    go_ret
    exact ⟨rfl, below_trans B1.out (below_trans hb2' hb3)⟩
  · obtain ⟨hg, hc20⟩ := hchk.out.1 (of_decide_eq_true HR.out.symm)
    have G := Lib.hid hg
    clear hg
    have ch2 : Chg (fun _ => False) w1 w2 := Chg.of_below hb2'
    replace o0 := ch2.ob o0 (fun h => h)
    replace f0 := ch2.cell f0 (fun h => h)
    replace f1 := ch2.cell f1 (fun h => h)
    have sz := ch2.size
    clear a0 a1 a2 a3 af l0 hb2
    obtain ⟨a0, a1, a2, a3, af⟩ := ob_cells4 o0
    have l0 := ob_lt o0
    have l2 : w.heap.size + 1 < w2.heap.size := by omega
    go_wp2_with fail
    refine (CacheNew_calls 2 2 _).mono ?_
    rintro e w3 ⟨p, F3, rfl, h3, hF3, hb3⟩
    have A3 := Lib.hid (show Ca0 w2 w3 p (CacheM.new 2 2) F3 from ⟨h3, hF3, hb3⟩)
    clear h3 hF3 hb3
    go_wp2_with fail
    refine (Absorb_calls 1 other09 (-1) (A3.out.same (Chg.below (by repeat (first | with_reducible exact Chg.refl _ _ | with_reducible exact chg0 | with_reducible refine Chg.drewN ?_ _ | with_reducible refine Chg.drew ?_ | with_reducible refine Chg.alloc ?_ _ | with_reducible refine Chg.setCell ?_ _ _ (by first | (simp; done) | omega | (simp; omega)) | with_reducible refine Chg.setBlock ?_ _ _ (by first | (simp; done) | omega | (simp; omega)) | exact Chg.refl _ _)))).here other09_good (by decide)).mono ?_
    rintro e w4 ⟨rfl, F4, h4, m4⟩
    have f3n : ∀ j, F3 j → j < w3.heap.size := fun j hj => A3.out.here.lt hj
    have oth : ob w4 w3.heap.size = some (.cells #[.int .i64 1, .bool false, .bool true, .int .i64 5] 47 (0, 0)) := m4.chg.ob (by simp [go_sem]) (fun h => absurd (f3n _ h) (Nat.lt_irrefl _))
    have nf4 : ¬ F4 w3.heap.size := fun h => by
      rcases m4.fresh _ h with h | h
      · exact absurd (f3n _ h) (Nat.lt_irrefl _)
      · simp [go_sem] at h; omega
    have A4 := Lib.hid (show Ca0 w2 w4 p tk1 F4 from (A3.out.same (Chg.below (by repeat (first | with_reducible exact Chg.refl _ _ | with_reducible exact chg0 | with_reducible refine Chg.drewN ?_ _ | with_reducible refine Chg.drew ?_ | with_reducible refine Chg.alloc ?_ _ | with_reducible refine Chg.setCell ?_ _ _ (by first | (simp; done) | omega | (simp; omega)) | with_reducible refine Chg.setBlock ?_ _ _ (by first | (simp; done) | omega | (simp; omega)) | exact Chg.refl _ _)))).moves h4 m4)
    have l34 := ob_lt oth
    clear h4 m4 f3n
    -- the cells ahead of the cache stand
    have old : ∀ (W : World) (c : CacheM) (F : Nat → Prop), Ca0 w2 W p c F → ob W w.heap.size = some (.cells #[.int .i64 h.count, .bool h.owner, .bool h.has, .int .i64 h.data] 47 (0, 0)) ∧ W.cell? ⟨w.heap.size + 1, 0, none⟩ = some (.bool w0) ∧ W.cell? ⟨w.heap.size + 1, 1, none⟩ = some (.bool w1') := fun W c F hA =>
      ⟨(Chg.of_below (S := fun _ => False) hA.below).ob o0 (fun h => h), (Chg.of_below (S := fun _ => False) hA.below).cell f0 (fun h => h), (Chg.of_below (S := fun _ => False) hA.below).cell f1 (fun h => h)⟩
    have OLD := Lib.hid old
    obtain ⟨x0, x1, x2⟩ := old _ _ _ A4.out
    obtain ⟨y0, y1, y2, y3, yf⟩ := ob_cells4 x0
    have ly := ob_lt x0
    clear old
    simp only [Line.val, Line.cells]
    go_wp2_with fail
    refine (Absorb_calls 3 h (-1) (A4.out.same (Chg.below (by repeat (first | with_reducible exact Chg.refl _ _ | with_reducible exact chg0 | with_reducible refine Chg.drewN ?_ _ | with_reducible refine Chg.drew ?_ | with_reducible refine Chg.alloc ?_ _ | with_reducible refine Chg.setCell ?_ _ _ (by first | (simp; done) | omega | (simp; omega)) | with_reducible refine Chg.setBlock ?_ _ _ (by first | (simp; done) | omega | (simp; omega)) | exact Chg.refl _ _)))).here G.out (by show (tk1.tok 3).count + _ ≤ _; rw [tk1_tok, if_neg (by decide)]; show 0 + h.count ≤ _; omega)).mono ?_
    rintro e w5 ⟨rfl, F5, h5, m5⟩
    have oth5 : ob w5 w3.heap.size = some (.cells #[.int .i64 1, .bool false, .bool true, .int .i64 5] 47 (0, 0)) := m5.chg.ob (by simp [go_sem, oth, l34]) nf4
    have nf5 : ¬ F5 w3.heap.size := fun h => by
      rcases m5.fresh _ h with h | h
      · exact nf4 h
      · first | omega | (simp [go_sem] at h; omega)
    have A5 := Lib.hid ((A4.out.same (Chg.below (by repeat (first | with_reducible exact Chg.refl _ _ | with_reducible exact chg0 | with_reducible refine Chg.drewN ?_ _ | with_reducible refine Chg.drew ?_ | with_reducible refine Chg.alloc ?_ _ | with_reducible refine Chg.setCell ?_ _ _ (by first | (simp; done) | omega | (simp; omega)) | with_reducible refine Chg.setBlock ?_ _ _ (by first | (simp; done) | omega | (simp; omega)) | exact Chg.refl _ _)))).moves h5 m5)
    clear h5 m5 x0 x1 x2 y0 y1 y2 y3 yf ly oth nf4
    obtain ⟨x0, x1, x2⟩ := OLD.out _ _ _ A5.out
    obtain ⟨y0, y1, y2, y3, yf⟩ := ob_cells4 x0
    have ly := ob_lt x0
    have ly2 := World.block_lt_of_cell? w5 _ x1
    simp only at ly2
    obtain ⟨a, ha⟩ : ∃ a, a = (tk1.absorb 3 h (-1)).1 := ⟨_, rfl⟩
    obtain ⟨t1, t2, t3, t4⟩ := tk3 G.out count w0 w1'
    rw [← ha] at t1 t2 t3 t4 A5
    obtain ⟨s1, hs1⟩ : ∃ x, x = (h.split count w0 w1').1 := ⟨_, rfl⟩
    obtain ⟨s2, hs2⟩ : ∃ x, x = (h.split count w0 w1').2 := ⟨_, rfl⟩
    have hS := RefSplit_calls h count w0 w1'
    rw [← hs1] at t1
    rw [← hs2] at t2 t4
    simp only [← hs1, ← hs2] at hS
    have HS := Lib.hid hS
    have T1 := Lib.hid t1
    have T2 := Lib.hid t2
    have T3 := Lib.hid t3
    have T4 := Lib.hid t4
    have HA := Lib.hid ha
    clear hS t1 t2 t3 t4 hs1 hs2
    simp only [Line.val, Line.cells]
    go_wp2_with fail
    refine (HS.out _ G.out (by omega)).mono ?_
    rintro e w6 ⟨rfl, hb6⟩
    have hb56 : Below w5.heap.size w5 w6 := below_trans (Chg.below (by repeat (first | with_reducible exact Chg.refl _ _ | with_reducible exact chg0 | with_reducible refine Chg.drewN ?_ _ | with_reducible refine Chg.drew ?_ | with_reducible refine Chg.alloc ?_ _ | with_reducible refine Chg.setCell ?_ _ _ (by first | (simp; done) | omega | (simp; omega)) | with_reducible refine Chg.setBlock ?_ _ _ (by first | (simp; done) | omega | (simp; omega)) | exact Chg.refl _ _))) hb6
    have oth6 := (Chg.of_below (S := fun _ => False) hb56).ob oth5 (fun h => h)
    have f5n : ∀ j, F5 j → j < w5.heap.size ∧ w2.heap.size ≤ j := fun j hj => ⟨A5.out.here.lt hj, A5.out.low j hj⟩
    have sz56 := hb56.size
    have nS : ¬ F5 (w.heap.size + 1) ∧ ¬ F5 w3.heap.size ∧ ¬ F5 w6.heap.size ∧ ¬ F5 (w6.heap.size + 1) := ⟨fun h => by have := f5n _ h; omega, nf5, fun h => by have := f5n _ h; omega, fun h => by have := f5n _ h; omega⟩
    have NS := Lib.hid nS
    clear nS f5n hb56 oth5 nf5
    have A6 := Lib.hid ((A5.out.same (Chg.below (by repeat (first | with_reducible exact Chg.refl _ _ | with_reducible exact chg0 | with_reducible refine Chg.drewN ?_ _ | with_reducible refine Chg.drew ?_ | with_reducible refine Chg.alloc ?_ _ | with_reducible refine Chg.setCell ?_ _ _ (by first | (simp; done) | omega | (simp; omega)) | with_reducible refine Chg.setBlock ?_ _ _ (by first | (simp; done) | omega | (simp; omega)) | exact Chg.refl _ _)))).same hb6)
    clear hb6 x0 x1 x2 y0 y1 y2 y3 yf ly ly2
    obtain ⟨x0, x1, x2⟩ := OLD.out _ _ _ A6.out
    have ly2 := World.block_lt_of_cell? w6 _ x1
    simp only at ly2
    have hct : (a.tok 3).count ≤ 1000000000000 := by rw [HA.out, (tk2 G.out).1]; omega
    have HCT := Lib.hid hct
    have l36 := ob_lt oth6
    clear hct HA ha
    simp only [Bundle.val, Bundle.cells]
    go_wp2_with fail
    obtain ⟨W, hW⟩ : ∃ W, W = ((w6.alloc (Obj.cells #[Value.int IntKind.i64 s1.count, Value.bool s1.owner, Value.bool s1.has, Value.int IntKind.i64 s1.data] 47)).alloc (Obj.cells #[Value.int IntKind.i64 s2.count, Value.bool s2.owner, Value.bool s2.has, Value.int IntKind.i64 s2.data] 47)) := ⟨_, rfl⟩
    rw [← hW]
    have hS : W.cell? ⟨w.heap.size + 1, 0, none⟩ = some (.bool w0) ∧ W.cell? ⟨w.heap.size + 1, 1, none⟩ = some (.bool w1') ∧ W.cell? ⟨w3.heap.size, 0, none⟩ = some (.int .i64 1) ∧ W.cell? ⟨w3.heap.size, 1, none⟩ = some (.bool false) ∧ W.cell? ⟨w3.heap.size, 2, none⟩ = some (.bool true) ∧ W.cell? ⟨w3.heap.size, 3, none⟩ = some (.int .i64 5) ∧ W.cell? ⟨w6.heap.size, 0, none⟩ = some (.int .i64 s1.count) ∧ W.cell? ⟨w6.heap.size, 1, none⟩ = some (.bool s1.owner) ∧ W.cell? ⟨w6.heap.size, 2, none⟩ = some (.bool s1.has) ∧ W.cell? ⟨w6.heap.size, 3, none⟩ = some (.int .i64 s1.data) ∧ W.cell? ⟨w6.heap.size + 1, 0, none⟩ = some (.int .i64 s2.count) ∧ W.cell? ⟨w6.heap.size + 1, 1, none⟩ = some (.bool s2.owner) ∧ W.cell? ⟨w6.heap.size + 1, 2, none⟩ = some (.bool s2.has) ∧ W.cell? ⟨w6.heap.size + 1, 3, none⟩ = some (.int .i64 s2.data) := by
      subst hW
      obtain ⟨q0, q1, q2, q3, qf⟩ := ob_cells4 oth6
      have up : ∀ {b o : Nat} {v : Value}, w6.cell? ⟨b, o, none⟩ = some v → ((w6.alloc (Obj.cells #[Value.int IntKind.i64 s1.count, Value.bool s1.owner, Value.bool s1.has, Value.int IntKind.i64 s1.data] 47)).alloc (Obj.cells #[Value.int IntKind.i64 s2.count, Value.bool s2.owner, Value.bool s2.has, Value.int IntKind.i64 s2.data] 47)).cell? ⟨b, o, none⟩ = some v := fun h =>
        (Chg.alloc (Chg.alloc (Chg.refl (fun _ => False) w6) _) _).cell h (fun h => h)
      exact ⟨up x1, up x2, up q0, up q1, up q2, up q3, by simp [go_sem], by simp [go_sem], by simp [go_sem], by simp [go_sem], by simp [go_sem], by simp [go_sem], by simp [go_sem], by simp [go_sem]⟩
    have HA6 := Lib.hid (show Ca0 w2 W p a F5 by subst hW; exact A6.out.same (Chg.below (by repeat (first | with_reducible exact Chg.refl _ _ | with_reducible exact chg0 | with_reducible refine Chg.drewN ?_ _ | with_reducible refine Chg.drew ?_ | with_reducible refine Chg.alloc ?_ _ | with_reducible refine Chg.setCell ?_ _ _ (by first | (simp; done) | omega | (simp; omega)) | with_reducible refine Chg.setBlock ?_ _ _ (by first | (simp; done) | omega | (simp; omega)) | exact Chg.refl _ _))))
    have hb0 : Below w.heap.size w W := below_trans B1.out (below_trans hb2' HA6.out.below)
    clear hW oth6 x0 x1 x2 ly2 l36 A3 A4 A5 A6 OLD o0 f0 f1 a0 a1 a2 a3 af l0
    by_cases hp : 0 < s2.count
    all_goals
      (first | rw [if_pos hp] at T4 | rw [if_neg hp] at T4)
      (first | (have hp' := decide_eq_true hp) | (have hp' := decide_eq_false hp))
      clear hp
      go_region_held3 (fun W => W.cell? ⟨w.heap.size + 1, 0, none⟩ = some (.bool w0) ∧ W.cell? ⟨w.heap.size + 1, 1, none⟩ = some (.bool w1') ∧ W.cell? ⟨w3.heap.size, 0, none⟩ = some (.int .i64 1) ∧ W.cell? ⟨w3.heap.size, 1, none⟩ = some (.bool false) ∧ W.cell? ⟨w3.heap.size, 2, none⟩ = some (.bool true) ∧ W.cell? ⟨w3.heap.size, 3, none⟩ = some (.int .i64 5) ∧ W.cell? ⟨w6.heap.size, 0, none⟩ = some (.int .i64 s1.count) ∧ W.cell? ⟨w6.heap.size, 1, none⟩ = some (.bool s1.owner) ∧ W.cell? ⟨w6.heap.size, 2, none⟩ = some (.bool s1.has) ∧ W.cell? ⟨w6.heap.size, 3, none⟩ = some (.int .i64 s1.data) ∧ W.cell? ⟨w6.heap.size + 1, 0, none⟩ = some (.int .i64 s2.count) ∧ W.cell? ⟨w6.heap.size + 1, 1, none⟩ = some (.bool s2.owner) ∧ W.cell? ⟨w6.heap.size + 1, 2, none⟩ = some (.bool s2.has) ∧ W.cell? ⟨w6.heap.size + 1, 3, none⟩ = some (.int .i64 s2.data)) (first | assumption | (refine keep14 (S := fun _ => False) ?_ (fun h => h) (fun h => h) (fun h => h) (fun h => h) hS; (repeat (first | with_reducible exact Chg.refl _ _ | with_reducible exact chg0 | with_reducible refine Chg.drewN ?_ _ | with_reducible refine Chg.drew ?_ | with_reducible refine Chg.alloc ?_ _ | with_reducible refine Chg.setCell ?_ _ _ (by first | (simp; done) | omega | (simp; omega)) | with_reducible refine Chg.setBlock ?_ _ _ (by first | (simp; done) | omega | (simp; omega)) | exact Chg.refl _ _)); done) | fail) (first
        | (go_at_call 33; refine (Take_calls 3 count w0 w1' (HA6.out.same (Chg.below (by repeat (first | with_reducible exact Chg.refl _ _ | with_reducible exact chg0 | with_reducible refine Chg.drewN ?_ _ | with_reducible refine Chg.drew ?_ | with_reducible refine Chg.alloc ?_ _ | with_reducible refine Chg.setCell ?_ _ _ (by first | (simp; done) | omega | (simp; omega)) | with_reducible refine Chg.setBlock ?_ _ _ (by first | (simp; done) | omega | (simp; omega)) | exact Chg.refl _ _)))).here HCT.out).mono ?_; rintro e w7 ⟨rfl, F7, h7, m7⟩; rw [T1.out]; have hS' := keep14 m7.chg NS.out.1 NS.out.2.1 NS.out.2.2.1 NS.out.2.2.2 (keep14 (S := fun _ => False) (by repeat (first | with_reducible exact Chg.refl _ _ | with_reducible exact chg0 | with_reducible refine Chg.drewN ?_ _ | with_reducible refine Chg.drew ?_ | with_reducible refine Chg.alloc ?_ _ | with_reducible refine Chg.setCell ?_ _ _ (by first | (simp; done) | omega | (simp; omega)) | with_reducible refine Chg.setBlock ?_ _ _ (by first | (simp; done) | omega | (simp; omega)) | exact Chg.refl _ _)) (fun h => h) (fun h => h) (fun h => h) (fun h => h) hS); clear hS; have hS := hS'; have HA7 := Lib.hid ((HA6.out.same (Chg.below (by repeat (first | with_reducible exact Chg.refl _ _ | with_reducible exact chg0 | with_reducible refine Chg.drewN ?_ _ | with_reducible refine Chg.drew ?_ | with_reducible refine Chg.alloc ?_ _ | with_reducible refine Chg.setCell ?_ _ _ (by first | (simp; done) | omega | (simp; omega)) | with_reducible refine Chg.setBlock ?_ _ _ (by first | (simp; done) | omega | (simp; omega)) | exact Chg.refl _ _)))).moves h7 m7); clear h7 m7 hS'; simp only [Bundle.val, Bundle.cells])
        | (go_at_call 28; refine (Get_calls _ (HA7.out.same (Chg.below (by repeat (first | with_reducible exact Chg.refl _ _ | with_reducible exact chg0 | with_reducible refine Chg.drewN ?_ _ | with_reducible refine Chg.drew ?_ | with_reducible refine Chg.alloc ?_ _ | with_reducible refine Chg.setCell ?_ _ _ (by first | (simp; done) | omega | (simp; omega)) | with_reducible refine Chg.setBlock ?_ _ _ (by first | (simp; done) | omega | (simp; omega)) | exact Chg.refl _ _)))).here).mono ?_; rintro e w8 ⟨rfl, hb8⟩; (first | rw [T2.out] | rw [T3.out]); have hS' := keep14 (Chg.of_below (S := fun _ => False) hb8) (fun h => h) (fun h => h) (fun h => h) (fun h => h) (keep14 (S := fun _ => False) (by repeat (first | with_reducible exact Chg.refl _ _ | with_reducible exact chg0 | with_reducible refine Chg.drewN ?_ _ | with_reducible refine Chg.drew ?_ | with_reducible refine Chg.alloc ?_ _ | with_reducible refine Chg.setCell ?_ _ _ (by first | (simp; done) | omega | (simp; omega)) | with_reducible refine Chg.setBlock ?_ _ _ (by first | (simp; done) | omega | (simp; omega)) | exact Chg.refl _ _)) (fun h => h) (fun h => h) (fun h => h) (fun h => h) hS); clear hS; have hS := hS'; have HA8 := Lib.hid ((HA7.out.same (Chg.below (by repeat (first | with_reducible exact Chg.refl _ _ | with_reducible exact chg0 | with_reducible refine Chg.drewN ?_ _ | with_reducible refine Chg.drew ?_ | with_reducible refine Chg.alloc ?_ _ | with_reducible refine Chg.setCell ?_ _ _ (by first | (simp; done) | omega | (simp; omega)) | with_reducible refine Chg.setBlock ?_ _ _ (by first | (simp; done) | omega | (simp; omega)) | exact Chg.refl _ _)))).same hb8); clear HA7; have HA7 := HA8; clear hb8 hS' HA8; simp only [Bundle.val, Bundle.cells, other09])
        | (go_at_call 38; refine (All_calls (HA7.out.same (Chg.below (by repeat (first | with_reducible exact Chg.refl _ _ | with_reducible exact chg0 | with_reducible refine Chg.drewN ?_ _ | with_reducible refine Chg.drew ?_ | with_reducible refine Chg.alloc ?_ _ | with_reducible refine Chg.setCell ?_ _ _ (by first | (simp; done) | omega | (simp; omega)) | with_reducible refine Chg.setBlock ?_ _ _ (by first | (simp; done) | omega | (simp; omega)) | exact Chg.refl _ _)))).here).mono ?_; rintro e w9 ⟨u, rfl, hu, _, hb9⟩; obtain ⟨A', cap', e'⟩ := hu.form; rw [List.length_map, T4.out] at e'; subst e'; have hS' := keep14 (Chg.of_below (S := fun _ => False) hb9) (fun h => h) (fun h => h) (fun h => h) (fun h => h) (keep14 (S := fun _ => False) (by repeat (first | with_reducible exact Chg.refl _ _ | with_reducible exact chg0 | with_reducible refine Chg.drewN ?_ _ | with_reducible refine Chg.drew ?_ | with_reducible refine Chg.alloc ?_ _ | with_reducible refine Chg.setCell ?_ _ _ (by first | (simp; done) | omega | (simp; omega)) | with_reducible refine Chg.setBlock ?_ _ _ (by first | (simp; done) | omega | (simp; omega)) | exact Chg.refl _ _)) (fun h => h) (fun h => h) (fun h => h) (fun h => h) hS); clear hS; have hS := hS'; have HA8 := Lib.hid ((HA7.out.same (Chg.below (by repeat (first | with_reducible exact Chg.refl _ _ | with_reducible exact chg0 | with_reducible refine Chg.drewN ?_ _ | with_reducible refine Chg.drew ?_ | with_reducible refine Chg.alloc ?_ _ | with_reducible refine Chg.setCell ?_ _ _ (by first | (simp; done) | omega | (simp; omega)) | with_reducible refine Chg.setBlock ?_ _ _ (by first | (simp; done) | omega | (simp; omega)) | exact Chg.refl _ _)))).same hb9); clear HA7; have HA7 := HA8; clear hb9 hS' HA8 hu)
        | fail)
      all_goals (go_wp2_with fail)
      all_goals go_ret
      all_goals exact ⟨by first | rfl | exact retb (by simp at hp' ⊢; omega), below_trans B1.out (below_trans hb2' (below_trans HA7.out.below (Chg.below (by repeat (first | with_reducible exact Chg.refl _ _ | with_reducible exact chg0 | with_reducible refine Chg.drewN ?_ _ | with_reducible refine Chg.drew ?_ | with_reducible refine Chg.alloc ?_ _ | with_reducible refine Chg.setCell ?_ _ _ (by first | (simp; done) | omega | (simp; omega)) | with_reducible refine Chg.setBlock ?_ _ _ (by first | (simp; done) | omega | (simp; omega)) | exact Chg.refl _ _)))))⟩
set_option maxRecDepth 100000 in
theorem cacheTakes_lifted (os : Os) (started : os.Started) (H : Type) (enc : TypeId × Value → H) :
    ReturnsInHanded {} Try.checked os 10 .any (Rows.cacheTakesSpec.pre6 enc Try.prog Try.f10 Rows.cacheTakesRow.domain false) (Rows.cacheTakesSpec.post enc Try.prog Try.f10 false true false false) := by
  refine returnsInHanded_of_change (C := Try.checked) law_own started (by kernel_rfl) Try.func10
    (ChangeSpec.witness6 (enc := enc) (C := Try.checked) false ⟨#[], #[.agg #[.int .i64 0, .bool false, .bool false, .int .i64 0], .int .i64 0, .agg #[.bool false, .bool false]], []⟩ 8 (by kernel_rfl) (by kernel_rfl) (by kernel_rfl) (by kernel_rfl)) ?_
  intro W base args ds gs before hval0 hW hcnd _
  have hval : ∀ (j : Nat) t v, Try.f10.params[j]? = some t → args[j]? = some v → Value.okWide Try.prog W .any base t v := hval0
  have hW' := hW
  obtain ⟨p, q, hA0, hV, rfl, hfz, hnd⟩ := hW
  have hA : DataW.TrodAll enc Try.prog W 0 (fun _ => true) true Try.f10.params.toList args.toList ds p := hA0
  rw [Try.params10] at hA hval
  obtain ⟨v0, vs0, d0, ds0, p0, q0, hargs, rfl, rfl, h0, r0⟩ := trodAll_cons hA
  obtain ⟨v1, vs1, d1, ds1, p1, q1, rfl, rfl, rfl, h1, r1⟩ := trodAll_cons r0
  obtain ⟨v2, vs2, d2, ds2, p2, q2, rfl, rfl, rfl, h2, r2⟩ := trodAll_cons r1
  obtain ⟨rfl, rfl, rfl⟩ := trodAll_nil r2
  obtain rfl : args = #[v0, v1, v2] := by cases args; simp_all
  obtain ⟨rfl, rfl⟩ := trodVars_none hV
  have k0 := h0
  have lt0 : ∀ x ∈ p0, x.block < W.heap.size := by obtain ⟨m, hm⟩ := k0; exact DataW.trod_lt m _ _ _ hm
  obtain ⟨f0, g0⟩ := h0
  obtain ⟨cs0, rfl, _⟩ := okWide_struct Try.underlying47 (hval 0 47 v0 rfl rfl)
  obtain ⟨x0, e0, o0⟩ := Bundle.of_trod g0
  obtain rfl : cs0 = x0.cells.toArray := by simp only [Value.cells] at e0; rw [← e0]
  have k1 := h1
  have lt1 : ∀ x ∈ p1, x.block < W.heap.size := by obtain ⟨m, hm⟩ := k1; exact DataW.trod_lt m _ _ _ hm
  obtain ⟨f1, g1⟩ := h1
  obtain ⟨x1, e1, o1⟩ := int_of_trod g1
  obtain rfl := one_value (hval 1 3 v1 rfl rfl) Try.underlying3 e1
  have k2 := h2
  have lt2 : ∀ x ∈ p2, x.block < W.heap.size := by obtain ⟨m, hm⟩ := k2; exact DataW.trod_lt m _ _ _ hm
  obtain ⟨f2, g2⟩ := h2
  obtain ⟨cs2, rfl, _⟩ := okWide_array Try.underlying69 (hval 2 69 v2 rfl rfl)
  obtain ⟨x2, e2, o2⟩ := Flags.of_trod g2
  obtain rfl : cs2 = x2.cells.toArray := by simp only [Value.cells] at e2; rw [← e2]
  clear hA0 hval0
  refine (cacheTakes_walk x0 o0 x1 o1 x2 o2 W).mono fun e W' ⟨he, bel⟩ => ?_
  subst he
  exact ⟨_, rfl, _, _, _, [], _, [], hW', trodAll_mk1 (shut_bool Try.underlying4 _), (trodAll_cons_mk (Below.trod law_laidOut (by kernel_rfl) (of_decide_eq_true (by kernel_rfl)) k0 bel lt0) (trodAll_cons_mk (Below.trod law_laidOut (by kernel_rfl) (of_decide_eq_true (by kernel_rfl)) k1 bel lt1) (trodAll_cons_mk (Below.trod law_laidOut (by kernel_rfl) (of_decide_eq_true (by kernel_rfl)) k2 bel lt2) trodAll_mk0))), rfl, bel.frame _, fun h => by cases h⟩

theorem cacheTakes_holds : Rows.CacheTakesSaid :=
  OpenClaim.holds_of_wide 10 Try.f10 rfl rfl rfl rfl rfl rfl rfl ⟨rfl, rfl, rfl, rfl, rfl⟩ rfl rfl rfl rfl rfl (by kernel_rfl) Try.func10 (by kernel_rfl)
    (of_decide_eq_true (by kernel_rfl)) (by unfold Func.isWrapper; first | (rw [if_pos (by decide +kernel)]; kernel_rfl) | (rw [if_neg (by decide +kernel)]; exact ⟨rfl, rfl⟩))
    (fun os started H enc _ => cacheTakes_lifted os started H enc)
end Go.Proofs.Ytocnhmakgbdbfaa
