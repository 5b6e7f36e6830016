/-
  The statements on the cache: what wakes them.
-/
import Derived.Test.YtocnhmakgbdbfaaCa7
import Derived.Test.YtocnhmakgbdbfaaCa8
import Derived.Test.YtocnhmakgbdbfaaCa9
import Derived.Test.YtocnhmakgbdbfaaLnL
namespace Go.Proofs.Ytocnhmakgbdbfaa
open Go.RowKit Go.Sort Go.ChangeShapes Go.WideShapes Go.ChangeAt
open Go.ChangeMaps (setBlock)
set_option linter.unusedVariables false
set_option linter.unusedSimpArgs false

/-- A cache that stands where the world began. -/
structure Ca0 (w0 w : World) (p : Nat) (c : CacheM) (F : Nat → Prop) : Prop where
  here : CacheAt w p c F
  low : ∀ j, F j → w0.heap.size ≤ j
  below : Below w0.heap.size w0 w
theorem Ca0.moves {w0 w w' : World} {p : Nat} {c c' : CacheM} {F F' : Nat → Prop} (h : Ca0 w0 w p c F) (h1 : CacheAt w' p c' F') (m : Moves w w' F F') : Ca0 w0 w' p c' F' :=
  ⟨h1, m.low h.low h.below.size, m.below h.below h.low⟩
theorem Ca0.same {w0 w w' : World} {p : Nat} {c : CacheM} {F : Nat → Prop} (h : Ca0 w0 w p c F) (h1 : Below w.heap.size w w') : Ca0 w0 w' p c F :=
  ⟨h.here.below h1, h.low, below_trans h.below h1⟩

def two09 : Bundle := ⟨2, true, true, 7⟩
def one09 : Bundle := ⟨1, false, false, 0⟩
theorem two09_good : two09.Good := (Bundle.check_zero (tokens := 2)).1 (by decide) |>.1
theorem one09_good : one09.Good := (Bundle.check_zero (tokens := 2)).1 (by decide) |>.1
def cc0 : CacheM := CacheM.new 1 1
def cc1 : CacheM := (cc0.absorb 3 two09 (-1)).1
def cc2 : CacheM := (cc1.absorb 5 one09 3).1
def cc3 : CacheM := (cc2.does ⟨3, true, 9⟩ 2).1
def cc4 : CacheM := (cc3.absorb 5 one09 (-1)).1
theorem cc_1 : (cc0.absorb 3 two09 (-1)).2 = (Line.none, false) := by kernel_rfl
theorem cc_2 : (cc1.absorb 5 one09 3).2 = (⟨5, ⟨1, false, false, 0⟩⟩, true) := by kernel_rfl
theorem cc_3 : (cc2.does ⟨3, true, 9⟩ 2).2 = (9, true) := by kernel_rfl
theorem cc_4 : (cc3.absorb 5 one09 (-1)).2 = (⟨3, ⟨2, true, true, 9⟩⟩, true) := by kernel_rfl
theorem cc_5 : (cc4.tok 5) = ⟨1, false, false, 0⟩ := by kernel_rfl
theorem cc_6 : cc4.lines.all = [5] := by kernel_rfl
theorem cc_7 : cc4.all.length = 1 := by rw [CacheM.all_len, list_len', cc_6]; rfl
theorem cc_8 : (cc0.tok 3).count = 0 ∧ (cc1.tok 5).count = 0 ∧ (cc3.tok 5).count = 0 := ⟨by kernel_rfl, by kernel_rfl, by kernel_rfl⟩

theorem fieldCount (n d : Int) (o h : Bool) (w : World) : (Instr.field 47 (.agg #[.int .i64 n, .bool o, .bool h, .int .i64 d]) 0).run Try.prog w = .ok (.int .i64 n) w := by kernel_rfl

set_option maxHeartbeats 4000000 in
set_option maxRecDepth 20000 in
theorem caAwake_calls (w : World) : Calls Try.prog 24 #[] w fun e w' => e = .returned (.bool true) ∧ Below w.heap.size w w' := by
  have hfc := fieldCount
  go_enter Try.func24, Try.ntmps24
  go_wp2_with fail
  refine (CacheNew_calls 1 1 w).mono ?_
  rintro e w1 ⟨p, F1, rfl, h1, hF1, hb1⟩
  have a1 : Ca0 w w1 p cc0 F1 := ⟨h1, hF1, hb1⟩
  have A1 := Lib.hid a1
  clear h1 hF1 hb1 a1
  go_wp2_with fail
  refine (Absorb_calls 3 two09 (-1) (A1.out.same (Chg.below (by repeat (first | with_reducible exact Chg.refl _ _ | with_reducible exact chg0 | with_reducible refine Chg.drewN ?_ _ | with_reducible refine Chg.drew ?_ | with_reducible refine Chg.alloc ?_ _ | with_reducible refine Chg.setCell ?_ _ _ (by first | (simp; done) | omega | (simp; omega)) | with_reducible refine Chg.setBlock ?_ _ _ (by first | (simp; done) | omega | (simp; omega)) | exact Chg.refl _ _)))).here two09_good (by rw [cc_8.1]; decide)).mono ?_
  rintro e w2 ⟨rfl, F2, h2, m2⟩
  rw [cc_1]
  have A2 := Lib.hid ((A1.out.same (Chg.below (by repeat (first | with_reducible exact Chg.refl _ _ | with_reducible exact chg0 | with_reducible refine Chg.drewN ?_ _ | with_reducible refine Chg.drew ?_ | with_reducible refine Chg.alloc ?_ _ | with_reducible refine Chg.setCell ?_ _ _ (by first | (simp; done) | omega | (simp; omega)) | with_reducible refine Chg.setBlock ?_ _ _ (by first | (simp; done) | omega | (simp; omega)) | exact Chg.refl _ _)))).moves h2 m2)
  simp only [Line.val, Line.cells]
  go_wp2_with fail
  refine (Absorb_calls 5 one09 3 (A2.out.same (Chg.below (by repeat (first | with_reducible exact Chg.refl _ _ | with_reducible exact chg0 | with_reducible refine Chg.drewN ?_ _ | with_reducible refine Chg.drew ?_ | with_reducible refine Chg.alloc ?_ _ | with_reducible refine Chg.setCell ?_ _ _ (by first | (simp; done) | omega | (simp; omega)) | with_reducible refine Chg.setBlock ?_ _ _ (by first | (simp; done) | omega | (simp; omega)) | exact Chg.refl _ _)))).here one09_good (by show (cc1.tok 5).count + _ ≤ _; rw [cc_8.2.1]; decide)).mono ?_
  rintro e w3 ⟨rfl, F3, h3, m3⟩
  change CacheAt w3 p cc2 F3 at h3
  rw [show (((cc0.absorb 3 two09 (-1)).1).absorb 5 one09 3).2 = (⟨5, ⟨1, false, false, 0⟩⟩, true) from cc_2]
  have A3 := Lib.hid ((A2.out.same (Chg.below (by repeat (first | with_reducible exact Chg.refl _ _ | with_reducible exact chg0 | with_reducible refine Chg.drewN ?_ _ | with_reducible refine Chg.drew ?_ | with_reducible refine Chg.alloc ?_ _ | with_reducible refine Chg.setCell ?_ _ _ (by first | (simp; done) | omega | (simp; omega)) | with_reducible refine Chg.setBlock ?_ _ _ (by first | (simp; done) | omega | (simp; omega)) | exact Chg.refl _ _)))).moves h3 m3)
  clear h2 m2 h3 m3
  simp only [Line.val, Line.cells]
  go_wp2_with fail
  refine (CacheDo_calls ⟨3, true, 9⟩ 2 (A3.out.same (Chg.below (by repeat (first | with_reducible exact Chg.refl _ _ | with_reducible exact chg0 | with_reducible refine Chg.drewN ?_ _ | with_reducible refine Chg.drew ?_ | with_reducible refine Chg.alloc ?_ _ | with_reducible refine Chg.setCell ?_ _ _ (by first | (simp; done) | omega | (simp; omega)) | with_reducible refine Chg.setBlock ?_ _ _ (by first | (simp; done) | omega | (simp; omega)) | exact Chg.refl _ _)))).here).mono ?_
  rintro e w4 ⟨rfl, F4, h4, m4⟩
  change CacheAt w4 p cc3 F4 at h4
  rw [cc_3]
  have hf3 : ∀ j, F3 j → j < w3.heap.size := fun j hj => A3.out.here.lt hj
  have oa : ob w4 w3.heap.size = some (.cells #[.int .i64 5, .int .i64 1, .bool false, .bool false, .int .i64 0] 53 (0, 0)) := m4.chg.ob (by simp [go_sem]) (fun h => absurd (hf3 _ h) (Nat.lt_irrefl _))
  have hf4 : ¬ F4 w3.heap.size := fun h => by
    rcases m4.fresh _ h with h | h
    · exact absurd (hf3 _ h) (Nat.lt_irrefl _)
    · simp [go_sem] at h; omega
  have A4 := Lib.hid ((A3.out.same (Chg.below (by repeat (first | with_reducible exact Chg.refl _ _ | with_reducible exact chg0 | with_reducible refine Chg.drewN ?_ _ | with_reducible refine Chg.drew ?_ | with_reducible refine Chg.alloc ?_ _ | with_reducible refine Chg.setCell ?_ _ _ (by first | (simp; done) | omega | (simp; omega)) | with_reducible refine Chg.setBlock ?_ _ _ (by first | (simp; done) | omega | (simp; omega)) | exact Chg.refl _ _)))).moves h4 m4)
  have la := ob_lt oa
  clear h4 m4 hf3
  go_wp2_with fail
  refine (Absorb_calls 5 one09 (-1) (A4.out.same (Chg.below (by repeat (first | with_reducible exact Chg.refl _ _ | with_reducible exact chg0 | with_reducible refine Chg.drewN ?_ _ | with_reducible refine Chg.drew ?_ | with_reducible refine Chg.alloc ?_ _ | with_reducible refine Chg.setCell ?_ _ _ (by first | (simp; done) | omega | (simp; omega)) | with_reducible refine Chg.setBlock ?_ _ _ (by first | (simp; done) | omega | (simp; omega)) | exact Chg.refl _ _)))).here one09_good (by rw [cc_8.2.2]; decide)).mono ?_
  rintro e w5 ⟨rfl, F5, h5, m5⟩
  change CacheAt w5 p cc4 F5 at h5
  rw [cc_4]
  replace oa : ob w5 w3.heap.size = some (.cells #[.int .i64 5, .int .i64 1, .bool false, .bool false, .int .i64 0] 53 (0, 0)) := m5.chg.ob (by simp [go_sem, oa, la]) hf4
  have A5 := Lib.hid ((A4.out.same (Chg.below (by repeat (first | with_reducible exact Chg.refl _ _ | with_reducible exact chg0 | with_reducible refine Chg.drewN ?_ _ | with_reducible refine Chg.drew ?_ | with_reducible refine Chg.alloc ?_ _ | with_reducible refine Chg.setCell ?_ _ _ (by first | (simp; done) | omega | (simp; omega)) | with_reducible refine Chg.setBlock ?_ _ _ (by first | (simp; done) | omega | (simp; omega)) | exact Chg.refl _ _)))).moves h5 m5)
  replace la := ob_lt oa
  obtain ⟨x0, x1, x2, x3, x4, xf⟩ := ob_cells5 oa
  clear h5 m5 hf4
  simp only [Line.val, Line.cells]
  go_wp2_with fail
  refine (Get_calls 5 (A5.out.same (Chg.below (by repeat (first | with_reducible exact Chg.refl _ _ | with_reducible exact chg0 | with_reducible refine Chg.drewN ?_ _ | with_reducible refine Chg.drew ?_ | with_reducible refine Chg.alloc ?_ _ | with_reducible refine Chg.setCell ?_ _ _ (by first | (simp; done) | omega | (simp; omega)) | with_reducible refine Chg.setBlock ?_ _ _ (by first | (simp; done) | omega | (simp; omega)) | exact Chg.refl _ _)))).here).mono ?_
  rintro e w6 ⟨rfl, hb6⟩
  rw [cc_5]
  have A6 := Lib.hid ((A5.out.same (Chg.below (by repeat (first | with_reducible exact Chg.refl _ _ | with_reducible exact chg0 | with_reducible refine Chg.drewN ?_ _ | with_reducible refine Chg.drew ?_ | with_reducible refine Chg.alloc ?_ _ | with_reducible refine Chg.setCell ?_ _ _ (by first | (simp; done) | omega | (simp; omega)) | with_reducible refine Chg.setBlock ?_ _ _ (by first | (simp; done) | omega | (simp; omega)) | exact Chg.refl _ _)))).same hb6)
  have oa6 : ob w6 w3.heap.size = some (.cells #[.int .i64 5, .int .i64 1, .bool false, .bool false, .int .i64 0] 53 (0, 0)) := (Chg.of_below (S := fun _ => False) hb6).ob (by simp [go_sem, oa, la, Nat.lt_succ_of_lt la]) (fun h => h)
  have ob6 : ob w6 w5.heap.size = some (.cells #[.int .i64 3, .int .i64 2, .bool true, .bool true, .int .i64 9] 53 (0, 0)) := (Chg.of_below (S := fun _ => False) hb6).ob (by simp [go_sem]) (fun h => h)
  obtain ⟨p0, p1, p2, p3, p4, pf⟩ := ob_cells5 oa6
  obtain ⟨q0, q1, q2, q3, q4, qf⟩ := ob_cells5 ob6
  have lq := ob_lt oa6
  have lq2 := ob_lt ob6
  clear hb6
  simp only [Bundle.val, Bundle.cells]
  go_wp2_with fail
  refine (All_calls (A6.out.same (Chg.below (by repeat (first | with_reducible exact Chg.refl _ _ | with_reducible exact chg0 | with_reducible refine Chg.drewN ?_ _ | with_reducible refine Chg.drew ?_ | with_reducible refine Chg.alloc ?_ _ | with_reducible refine Chg.setCell ?_ _ _ (by first | (simp; done) | omega | (simp; omega)) | with_reducible refine Chg.setBlock ?_ _ _ (by first | (simp; done) | omega | (simp; omega)) | exact Chg.refl _ _)))).here).mono ?_
  rintro e w7 ⟨u, rfl, hu, _, hb7⟩
  obtain ⟨A', cap', e'⟩ := hu.form
  rw [List.length_map, cc_7] at e'
  subst e'
  have A7 := Lib.hid ((A6.out.same (Chg.below (by repeat (first | with_reducible exact Chg.refl _ _ | with_reducible exact chg0 | with_reducible refine Chg.drewN ?_ _ | with_reducible refine Chg.drew ?_ | with_reducible refine Chg.alloc ?_ _ | with_reducible refine Chg.setCell ?_ _ _ (by first | (simp; done) | omega | (simp; omega)) | with_reducible refine Chg.setBlock ?_ _ _ (by first | (simp; done) | omega | (simp; omega)) | exact Chg.refl _ _)))).same hb7)
  clear hb7
  go_wp2_with fail
  go_ret
  exact ⟨by simp, A7.out.below⟩
end Go.Proofs.Ytocnhmakgbdbfaa
