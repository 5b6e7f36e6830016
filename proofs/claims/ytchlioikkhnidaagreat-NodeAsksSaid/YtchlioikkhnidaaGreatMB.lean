/-
  What comes in as an argument and reads as a struct of the package api has that struct's cells; a slice of such has theirs, one behind the other. And the frame of a statement: a walk that changes nothing that was there gives the row.
-/
import Derived.Test.YtchlioikkhnidaaGreatMA
import Derived.Test.YtchlioikkhnidaaGreatRows
import Derived.ProofKit
import Derived.OpenShut
import Derived.ChangeOld
import Derived.Deep.Slices
set_option linter.unusedVariables false
set_option linter.unusedSimpArgs false
namespace Go.Proofs.YtchlioikkhnidaaGreat
set_option maxRecDepth 100000
set_option linter.unusedSimpArgs false
open Go.RowKit Go.ChangeShapes Go.WideShapes Go.ChangeAt Go.Deep

section
variable {H : Type} {enc : TypeId × Value → H} {W : World} {base : Nat} {sp : Nat → Bool} {held : Bool} {fuel : Nat} {cs : List Value} {x : DataW H × List MemPlace}
theorem int_of_trod (h : DataW.trod enc Tryz.prog W base sp held fuel 3 cs = some x) : ∃ n, cs = [.int .i64 n] ∧ i64ok n := by
  obtain ⟨n, e, _, hw⟩ := DataW.trod_int Tryz.underlying3 h
  exact ⟨n, e, by have := bounds_i64 hw; unfold i64ok; omega⟩
theorem int64_of_trod (h : DataW.trod enc Tryz.prog W base sp held fuel 2 cs = some x) : ∃ n, cs = [.int .i64 n] ∧ i64ok n := by
  obtain ⟨n, e, _, hw⟩ := DataW.trod_int Tryz.underlying2 h
  exact ⟨n, e, by have := bounds_i64 hw; unfold i64ok; omega⟩
theorem bool_of_trod (h : DataW.trod enc Tryz.prog W base sp held fuel 4 cs = some x) : ∃ b, cs = [.bool b] := by
  obtain ⟨n, e, _⟩ := DataW.trod_bool Tryz.underlying4 h
  exact ⟨n, e⟩
theorem one_eq {a b : Value} (h : [a] = [b]) : a = b := by cases h; rfl
theorem fieldTrod {α : Type} {xs : List α} {n i : Nat} {o : Option α} (hx : xs.length = n) (hi : i < n) (h : o = xs[i]?) : ∃ y, o = some y := by
  rw [h, List.getElem?_eq_getElem (by omega)]
  exact ⟨_, rfl⟩
theorem len2 {l : List Value} (h : l.length = 2) : ∃ c0 c1, l = [c0, c1] := by
  match l, h with
  | [c0, c1], _ => exact ⟨c0, c1, rfl⟩
theorem len3 {l : List Value} (h : l.length = 3) : ∃ c0 c1 c2, l = [c0, c1, c2] := by
  match l, h with
  | [c0, c1, c2], _ => exact ⟨c0, c1, c2, rfl⟩
theorem len4 {l : List Value} (h : l.length = 4) : ∃ c0 c1 c2 c3, l = [c0, c1, c2, c3] := by
  match l, h with
  | [c0, c1, c2, c3], _ => exact ⟨c0, c1, c2, c3, rfl⟩
theorem len5 {l : List Value} (h : l.length = 5) : ∃ c0 c1 c2 c3 c4, l = [c0, c1, c2, c3, c4] := by
  match l, h with
  | [c0, c1, c2, c3, c4], _ => exact ⟨c0, c1, c2, c3, c4, rfl⟩
theorem len7 {l : List Value} (h : l.length = 7) : ∃ c0 c1 c2 c3 c4 c5 c6, l = [c0, c1, c2, c3, c4, c5, c6] := by
  match l, h with
  | [c0, c1, c2, c3, c4, c5, c6], _ => exact ⟨c0, c1, c2, c3, c4, c5, c6, rfl⟩
theorem len9 {l : List Value} (h : l.length = 9) : ∃ c0 c1 c2 c3 c4 c5 c6 c7 c8, l = [c0, c1, c2, c3, c4, c5, c6, c7, c8] := by
  match l, h with
  | [c0, c1, c2, c3, c4, c5, c6, c7, c8], _ => exact ⟨c0, c1, c2, c3, c4, c5, c6, c7, c8, rfl⟩
theorem len11 {l : List Value} (h : l.length = 11) : ∃ c0 c1 c2 c3 c4 c5 c6 c7 c8 c9 c10, l = [c0, c1, c2, c3, c4, c5, c6, c7, c8, c9, c10] := by
  match l, h with
  | [c0, c1, c2, c3, c4, c5, c6, c7, c8, c9, c10], _ => exact ⟨c0, c1, c2, c3, c4, c5, c6, c7, c8, c9, c10, rfl⟩
theorem len13 {l : List Value} (h : l.length = 13) : ∃ c0 c1 c2 c3 c4 c5 c6 c7 c8 c9 c10 c11 c12, l = [c0, c1, c2, c3, c4, c5, c6, c7, c8, c9, c10, c11, c12] := by
  match l, h with
  | [c0, c1, c2, c3, c4, c5, c6, c7, c8, c9, c10, c11, c12], _ => exact ⟨c0, c1, c2, c3, c4, c5, c6, c7, c8, c9, c10, c11, c12, rfl⟩
theorem len18 {l : List Value} (h : l.length = 18) : ∃ c0 c1 c2 c3 c4 c5 c6 c7 c8 c9 c10 c11 c12 c13 c14 c15 c16 c17, l = [c0, c1, c2, c3, c4, c5, c6, c7, c8, c9, c10, c11, c12, c13, c14, c15, c16, c17] := by
  match l, h with
  | [c0, c1, c2, c3, c4, c5, c6, c7, c8, c9, c10, c11, c12, c13, c14, c15, c16, c17], _ => exact ⟨c0, c1, c2, c3, c4, c5, c6, c7, c8, c9, c10, c11, c12, c13, c14, c15, c16, c17, rfl⟩
theorem Op.of_trod (h : DataW.trod enc Tryz.prog W base sp held fuel 25 cs = some x) : ∃ d : Op, cs = d.cells ∧ d.ok := by
  obtain ⟨xs, n, rfl, _, hl, hx, H⟩ := DataW.trod_struct Tryz.underlying25 h
  rw [show Tryz.prog.cellsOf 25 = 3 from by kernel_rfl] at hl
  obtain ⟨c0, c1, c2, rfl⟩ := len3 hl
  obtain ⟨y0, hy0⟩ := fieldTrod hx (by decide) (H 0 _ rfl)
  change DataW.trod enc Tryz.prog W base sp held n 3 (List.take (Tryz.prog.cellsOf 3) (List.drop 0 [c0, c1, c2])) = some y0 at hy0
  simp only [show Tryz.prog.cellsOf 3 = 1 from by kernel_rfl, List.drop, List.take] at hy0
  obtain ⟨v0, e0, o0⟩ := int_of_trod hy0
  obtain ⟨y1, hy1⟩ := fieldTrod hx (by decide) (H 1 _ rfl)
  change DataW.trod enc Tryz.prog W base sp held n 4 (List.take (Tryz.prog.cellsOf 4) (List.drop 1 [c0, c1, c2])) = some y1 at hy1
  simp only [show Tryz.prog.cellsOf 4 = 1 from by kernel_rfl, List.drop, List.take] at hy1
  obtain ⟨v1, e1⟩ := bool_of_trod hy1
  obtain ⟨y2, hy2⟩ := fieldTrod hx (by decide) (H 2 _ rfl)
  change DataW.trod enc Tryz.prog W base sp held n 2 (List.take (Tryz.prog.cellsOf 2) (List.drop 2 [c0, c1, c2])) = some y2 at hy2
  simp only [show Tryz.prog.cellsOf 2 = 1 from by kernel_rfl, List.drop, List.take] at hy2
  obtain ⟨v2, e2, o2⟩ := int64_of_trod hy2
  obtain rfl := one_eq e0
  obtain rfl := one_eq e1
  obtain rfl := one_eq e2
  exact ⟨⟨v0, v1, v2⟩, rfl, ⟨o0, o2⟩⟩
theorem Done.of_trod (h : DataW.trod enc Tryz.prog W base sp held fuel 60 cs = some x) : ∃ d : Done, cs = d.cells ∧ d.ok := by
  obtain ⟨xs, n, rfl, _, hl, hx, H⟩ := DataW.trod_struct Tryz.underlying60 h
  rw [show Tryz.prog.cellsOf 60 = 7 from by kernel_rfl] at hl
  obtain ⟨c0, c1, c2, c3, c4, c5, c6, rfl⟩ := len7 hl
  obtain ⟨y0, hy0⟩ := fieldTrod hx (by decide) (H 0 _ rfl)
  change DataW.trod enc Tryz.prog W base sp held n 3 (List.take (Tryz.prog.cellsOf 3) (List.drop 0 [c0, c1, c2, c3, c4, c5, c6])) = some y0 at hy0
  simp only [show Tryz.prog.cellsOf 3 = 1 from by kernel_rfl, List.drop, List.take] at hy0
  obtain ⟨v0, e0, o0⟩ := int_of_trod hy0
  obtain ⟨y1, hy1⟩ := fieldTrod hx (by decide) (H 1 _ rfl)
  change DataW.trod enc Tryz.prog W base sp held n 3 (List.take (Tryz.prog.cellsOf 3) (List.drop 1 [c0, c1, c2, c3, c4, c5, c6])) = some y1 at hy1
  simp only [show Tryz.prog.cellsOf 3 = 1 from by kernel_rfl, List.drop, List.take] at hy1
  obtain ⟨v1, e1, o1⟩ := int_of_trod hy1
  obtain ⟨y2, hy2⟩ := fieldTrod hx (by decide) (H 2 _ rfl)
  change DataW.trod enc Tryz.prog W base sp held n 25 (List.take (Tryz.prog.cellsOf 25) (List.drop 2 [c0, c1, c2, c3, c4, c5, c6])) = some y2 at hy2
  simp only [show Tryz.prog.cellsOf 25 = 3 from by kernel_rfl, List.drop, List.take] at hy2
  obtain ⟨v2, e2, o2⟩ := Op.of_trod hy2
  obtain ⟨y3, hy3⟩ := fieldTrod hx (by decide) (H 3 _ rfl)
  change DataW.trod enc Tryz.prog W base sp held n 2 (List.take (Tryz.prog.cellsOf 2) (List.drop 5 [c0, c1, c2, c3, c4, c5, c6])) = some y3 at hy3
  simp only [show Tryz.prog.cellsOf 2 = 1 from by kernel_rfl, List.drop, List.take] at hy3
  obtain ⟨v3, e3, o3⟩ := int64_of_trod hy3
  obtain ⟨y4, hy4⟩ := fieldTrod hx (by decide) (H 4 _ rfl)
  change DataW.trod enc Tryz.prog W base sp held n 3 (List.take (Tryz.prog.cellsOf 3) (List.drop 6 [c0, c1, c2, c3, c4, c5, c6])) = some y4 at hy4
  simp only [show Tryz.prog.cellsOf 3 = 1 from by kernel_rfl, List.drop, List.take] at hy4
  obtain ⟨v4, e4, o4⟩ := int_of_trod hy4
  obtain rfl := one_eq e0
  obtain rfl := one_eq e1
  simp only [Op.cells, List.cons.injEq, and_true] at e2
  obtain rfl := one_eq e3
  obtain rfl := one_eq e4
  obtain ⟨rfl, rfl, rfl⟩ := e2
  exact ⟨⟨v0, v1, v2, v3, v4⟩, rfl, ⟨o0, o1, o2, o3, o4⟩⟩
theorem Bundle.of_trod (h : DataW.trod enc Tryz.prog W base sp held fuel 42 cs = some x) : ∃ d : Bundle, cs = d.cells ∧ d.ok := by
  obtain ⟨xs, n, rfl, _, hl, hx, H⟩ := DataW.trod_struct Tryz.underlying42 h
  rw [show Tryz.prog.cellsOf 42 = 4 from by kernel_rfl] at hl
  obtain ⟨c0, c1, c2, c3, rfl⟩ := len4 hl
  obtain ⟨y0, hy0⟩ := fieldTrod hx (by decide) (H 0 _ rfl)
  change DataW.trod enc Tryz.prog W base sp held n 3 (List.take (Tryz.prog.cellsOf 3) (List.drop 0 [c0, c1, c2, c3])) = some y0 at hy0
  simp only [show Tryz.prog.cellsOf 3 = 1 from by kernel_rfl, List.drop, List.take] at hy0
  obtain ⟨v0, e0, o0⟩ := int_of_trod hy0
  obtain ⟨y1, hy1⟩ := fieldTrod hx (by decide) (H 1 _ rfl)
  change DataW.trod enc Tryz.prog W base sp held n 4 (List.take (Tryz.prog.cellsOf 4) (List.drop 1 [c0, c1, c2, c3])) = some y1 at hy1
  simp only [show Tryz.prog.cellsOf 4 = 1 from by kernel_rfl, List.drop, List.take] at hy1
  obtain ⟨v1, e1⟩ := bool_of_trod hy1
  obtain ⟨y2, hy2⟩ := fieldTrod hx (by decide) (H 2 _ rfl)
  change DataW.trod enc Tryz.prog W base sp held n 4 (List.take (Tryz.prog.cellsOf 4) (List.drop 2 [c0, c1, c2, c3])) = some y2 at hy2
  simp only [show Tryz.prog.cellsOf 4 = 1 from by kernel_rfl, List.drop, List.take] at hy2
  obtain ⟨v2, e2⟩ := bool_of_trod hy2
  obtain ⟨y3, hy3⟩ := fieldTrod hx (by decide) (H 3 _ rfl)
  change DataW.trod enc Tryz.prog W base sp held n 2 (List.take (Tryz.prog.cellsOf 2) (List.drop 3 [c0, c1, c2, c3])) = some y3 at hy3
  simp only [show Tryz.prog.cellsOf 2 = 1 from by kernel_rfl, List.drop, List.take] at hy3
  obtain ⟨v3, e3, o3⟩ := int64_of_trod hy3
  obtain rfl := one_eq e0
  obtain rfl := one_eq e1
  obtain rfl := one_eq e2
  obtain rfl := one_eq e3
  exact ⟨⟨v0, v1, v2, v3⟩, rfl, ⟨o0, o3⟩⟩
theorem Letter.of_trod (h : DataW.trod enc Tryz.prog W base sp held fuel 44 cs = some x) : ∃ d : Letter, cs = d.cells ∧ d.ok := by
  obtain ⟨xs, n, rfl, _, hl, hx, H⟩ := DataW.trod_struct Tryz.underlying44 h
  rw [show Tryz.prog.cellsOf 44 = 11 from by kernel_rfl] at hl
  obtain ⟨c0, c1, c2, c3, c4, c5, c6, c7, c8, c9, c10, rfl⟩ := len11 hl
  obtain ⟨y0, hy0⟩ := fieldTrod hx (by decide) (H 0 _ rfl)
  change DataW.trod enc Tryz.prog W base sp held n 3 (List.take (Tryz.prog.cellsOf 3) (List.drop 0 [c0, c1, c2, c3, c4, c5, c6, c7, c8, c9, c10])) = some y0 at hy0
  simp only [show Tryz.prog.cellsOf 3 = 1 from by kernel_rfl, List.drop, List.take] at hy0
  obtain ⟨v0, e0, o0⟩ := int_of_trod hy0
  obtain ⟨y1, hy1⟩ := fieldTrod hx (by decide) (H 1 _ rfl)
  change DataW.trod enc Tryz.prog W base sp held n 3 (List.take (Tryz.prog.cellsOf 3) (List.drop 1 [c0, c1, c2, c3, c4, c5, c6, c7, c8, c9, c10])) = some y1 at hy1
  simp only [show Tryz.prog.cellsOf 3 = 1 from by kernel_rfl, List.drop, List.take] at hy1
  obtain ⟨v1, e1, o1⟩ := int_of_trod hy1
  obtain ⟨y2, hy2⟩ := fieldTrod hx (by decide) (H 2 _ rfl)
  change DataW.trod enc Tryz.prog W base sp held n 3 (List.take (Tryz.prog.cellsOf 3) (List.drop 2 [c0, c1, c2, c3, c4, c5, c6, c7, c8, c9, c10])) = some y2 at hy2
  simp only [show Tryz.prog.cellsOf 3 = 1 from by kernel_rfl, List.drop, List.take] at hy2
  obtain ⟨v2, e2, o2⟩ := int_of_trod hy2
  obtain ⟨y3, hy3⟩ := fieldTrod hx (by decide) (H 3 _ rfl)
  change DataW.trod enc Tryz.prog W base sp held n 3 (List.take (Tryz.prog.cellsOf 3) (List.drop 3 [c0, c1, c2, c3, c4, c5, c6, c7, c8, c9, c10])) = some y3 at hy3
  simp only [show Tryz.prog.cellsOf 3 = 1 from by kernel_rfl, List.drop, List.take] at hy3
  obtain ⟨v3, e3, o3⟩ := int_of_trod hy3
  obtain ⟨y4, hy4⟩ := fieldTrod hx (by decide) (H 4 _ rfl)
  change DataW.trod enc Tryz.prog W base sp held n 3 (List.take (Tryz.prog.cellsOf 3) (List.drop 4 [c0, c1, c2, c3, c4, c5, c6, c7, c8, c9, c10])) = some y4 at hy4
  simp only [show Tryz.prog.cellsOf 3 = 1 from by kernel_rfl, List.drop, List.take] at hy4
  obtain ⟨v4, e4, o4⟩ := int_of_trod hy4
  obtain ⟨y5, hy5⟩ := fieldTrod hx (by decide) (H 5 _ rfl)
  change DataW.trod enc Tryz.prog W base sp held n 3 (List.take (Tryz.prog.cellsOf 3) (List.drop 5 [c0, c1, c2, c3, c4, c5, c6, c7, c8, c9, c10])) = some y5 at hy5
  simp only [show Tryz.prog.cellsOf 3 = 1 from by kernel_rfl, List.drop, List.take] at hy5
  obtain ⟨v5, e5, o5⟩ := int_of_trod hy5
  obtain ⟨y6, hy6⟩ := fieldTrod hx (by decide) (H 6 _ rfl)
  change DataW.trod enc Tryz.prog W base sp held n 4 (List.take (Tryz.prog.cellsOf 4) (List.drop 6 [c0, c1, c2, c3, c4, c5, c6, c7, c8, c9, c10])) = some y6 at hy6
  simp only [show Tryz.prog.cellsOf 4 = 1 from by kernel_rfl, List.drop, List.take] at hy6
  obtain ⟨v6, e6⟩ := bool_of_trod hy6
  obtain ⟨y7, hy7⟩ := fieldTrod hx (by decide) (H 7 _ rfl)
  change DataW.trod enc Tryz.prog W base sp held n 42 (List.take (Tryz.prog.cellsOf 42) (List.drop 7 [c0, c1, c2, c3, c4, c5, c6, c7, c8, c9, c10])) = some y7 at hy7
  simp only [show Tryz.prog.cellsOf 42 = 4 from by kernel_rfl, List.drop, List.take] at hy7
  obtain ⟨v7, e7, o7⟩ := Bundle.of_trod hy7
  obtain rfl := one_eq e0
  obtain rfl := one_eq e1
  obtain rfl := one_eq e2
  obtain rfl := one_eq e3
  obtain rfl := one_eq e4
  obtain rfl := one_eq e5
  obtain rfl := one_eq e6
  simp only [Bundle.cells, List.cons.injEq, and_true] at e7
  obtain ⟨rfl, rfl, rfl, rfl⟩ := e7
  exact ⟨⟨v0, v1, v2, v3, v4, v5, v6, v7⟩, rfl, ⟨o0, o1, o2, o3, o4, o5, o7⟩⟩
theorem Line.of_trod (h : DataW.trod enc Tryz.prog W base sp held fuel 53 cs = some x) : ∃ d : Line, cs = d.cells ∧ d.ok := by
  obtain ⟨xs, n, rfl, _, hl, hx, H⟩ := DataW.trod_struct Tryz.underlying53 h
  rw [show Tryz.prog.cellsOf 53 = 5 from by kernel_rfl] at hl
  obtain ⟨c0, c1, c2, c3, c4, rfl⟩ := len5 hl
  obtain ⟨y0, hy0⟩ := fieldTrod hx (by decide) (H 0 _ rfl)
  change DataW.trod enc Tryz.prog W base sp held n 3 (List.take (Tryz.prog.cellsOf 3) (List.drop 0 [c0, c1, c2, c3, c4])) = some y0 at hy0
  simp only [show Tryz.prog.cellsOf 3 = 1 from by kernel_rfl, List.drop, List.take] at hy0
  obtain ⟨v0, e0, o0⟩ := int_of_trod hy0
  obtain ⟨y1, hy1⟩ := fieldTrod hx (by decide) (H 1 _ rfl)
  change DataW.trod enc Tryz.prog W base sp held n 42 (List.take (Tryz.prog.cellsOf 42) (List.drop 1 [c0, c1, c2, c3, c4])) = some y1 at hy1
  simp only [show Tryz.prog.cellsOf 42 = 4 from by kernel_rfl, List.drop, List.take] at hy1
  obtain ⟨v1, e1, o1⟩ := Bundle.of_trod hy1
  obtain rfl := one_eq e0
  simp only [Bundle.cells, List.cons.injEq, and_true] at e1
  obtain ⟨rfl, rfl, rfl, rfl⟩ := e1
  exact ⟨⟨v0, v1⟩, rfl, ⟨o0, o1⟩⟩
theorem Active.of_trod (h : DataW.trod enc Tryz.prog W base sp held fuel 124 cs = some x) : ∃ d : Active, cs = d.cells ∧ d.ok := by
  obtain ⟨xs, n, rfl, _, hl, hx, H⟩ := DataW.trod_struct Tryz.underlying124 h
  rw [show Tryz.prog.cellsOf 124 = 3 from by kernel_rfl] at hl
  obtain ⟨c0, c1, c2, rfl⟩ := len3 hl
  obtain ⟨y0, hy0⟩ := fieldTrod hx (by decide) (H 0 _ rfl)
  change DataW.trod enc Tryz.prog W base sp held n 3 (List.take (Tryz.prog.cellsOf 3) (List.drop 0 [c0, c1, c2])) = some y0 at hy0
  simp only [show Tryz.prog.cellsOf 3 = 1 from by kernel_rfl, List.drop, List.take] at hy0
  obtain ⟨v0, e0, o0⟩ := int_of_trod hy0
  obtain ⟨y1, hy1⟩ := fieldTrod hx (by decide) (H 1 _ rfl)
  change DataW.trod enc Tryz.prog W base sp held n 3 (List.take (Tryz.prog.cellsOf 3) (List.drop 1 [c0, c1, c2])) = some y1 at hy1
  simp only [show Tryz.prog.cellsOf 3 = 1 from by kernel_rfl, List.drop, List.take] at hy1
  obtain ⟨v1, e1, o1⟩ := int_of_trod hy1
  obtain ⟨y2, hy2⟩ := fieldTrod hx (by decide) (H 2 _ rfl)
  change DataW.trod enc Tryz.prog W base sp held n 3 (List.take (Tryz.prog.cellsOf 3) (List.drop 2 [c0, c1, c2])) = some y2 at hy2
  simp only [show Tryz.prog.cellsOf 3 = 1 from by kernel_rfl, List.drop, List.take] at hy2
  obtain ⟨v2, e2, o2⟩ := int_of_trod hy2
  obtain rfl := one_eq e0
  obtain rfl := one_eq e1
  obtain rfl := one_eq e2
  exact ⟨⟨v0, v1, v2⟩, rfl, ⟨o0, o1, o2⟩⟩
theorem Config.of_trod (h : DataW.trod enc Tryz.prog W base sp held fuel 23 cs = some x) : ∃ d : Config, cs = d.cells ∧ d.ok := by
  obtain ⟨xs, n, rfl, _, hl, hx, H⟩ := DataW.trod_struct Tryz.underlying23 h
  rw [show Tryz.prog.cellsOf 23 = 9 from by kernel_rfl] at hl
  obtain ⟨c0, c1, c2, c3, c4, c5, c6, c7, c8, rfl⟩ := len9 hl
  obtain ⟨y0, hy0⟩ := fieldTrod hx (by decide) (H 0 _ rfl)
  change DataW.trod enc Tryz.prog W base sp held n 3 (List.take (Tryz.prog.cellsOf 3) (List.drop 0 [c0, c1, c2, c3, c4, c5, c6, c7, c8])) = some y0 at hy0
  simp only [show Tryz.prog.cellsOf 3 = 1 from by kernel_rfl, List.drop, List.take] at hy0
  obtain ⟨v0, e0, o0⟩ := int_of_trod hy0
  obtain ⟨y1, hy1⟩ := fieldTrod hx (by decide) (H 1 _ rfl)
  change DataW.trod enc Tryz.prog W base sp held n 3 (List.take (Tryz.prog.cellsOf 3) (List.drop 1 [c0, c1, c2, c3, c4, c5, c6, c7, c8])) = some y1 at hy1
  simp only [show Tryz.prog.cellsOf 3 = 1 from by kernel_rfl, List.drop, List.take] at hy1
  obtain ⟨v1, e1, o1⟩ := int_of_trod hy1
  obtain ⟨y2, hy2⟩ := fieldTrod hx (by decide) (H 2 _ rfl)
  change DataW.trod enc Tryz.prog W base sp held n 3 (List.take (Tryz.prog.cellsOf 3) (List.drop 2 [c0, c1, c2, c3, c4, c5, c6, c7, c8])) = some y2 at hy2
  simp only [show Tryz.prog.cellsOf 3 = 1 from by kernel_rfl, List.drop, List.take] at hy2
  obtain ⟨v2, e2, o2⟩ := int_of_trod hy2
  obtain ⟨y3, hy3⟩ := fieldTrod hx (by decide) (H 3 _ rfl)
  change DataW.trod enc Tryz.prog W base sp held n 3 (List.take (Tryz.prog.cellsOf 3) (List.drop 3 [c0, c1, c2, c3, c4, c5, c6, c7, c8])) = some y3 at hy3
  simp only [show Tryz.prog.cellsOf 3 = 1 from by kernel_rfl, List.drop, List.take] at hy3
  obtain ⟨v3, e3, o3⟩ := int_of_trod hy3
  obtain ⟨y4, hy4⟩ := fieldTrod hx (by decide) (H 4 _ rfl)
  change DataW.trod enc Tryz.prog W base sp held n 3 (List.take (Tryz.prog.cellsOf 3) (List.drop 4 [c0, c1, c2, c3, c4, c5, c6, c7, c8])) = some y4 at hy4
  simp only [show Tryz.prog.cellsOf 3 = 1 from by kernel_rfl, List.drop, List.take] at hy4
  obtain ⟨v4, e4, o4⟩ := int_of_trod hy4
  obtain ⟨y5, hy5⟩ := fieldTrod hx (by decide) (H 5 _ rfl)
  change DataW.trod enc Tryz.prog W base sp held n 3 (List.take (Tryz.prog.cellsOf 3) (List.drop 5 [c0, c1, c2, c3, c4, c5, c6, c7, c8])) = some y5 at hy5
  simp only [show Tryz.prog.cellsOf 3 = 1 from by kernel_rfl, List.drop, List.take] at hy5
  obtain ⟨v5, e5, o5⟩ := int_of_trod hy5
  obtain ⟨y6, hy6⟩ := fieldTrod hx (by decide) (H 6 _ rfl)
  change DataW.trod enc Tryz.prog W base sp held n 3 (List.take (Tryz.prog.cellsOf 3) (List.drop 6 [c0, c1, c2, c3, c4, c5, c6, c7, c8])) = some y6 at hy6
  simp only [show Tryz.prog.cellsOf 3 = 1 from by kernel_rfl, List.drop, List.take] at hy6
  obtain ⟨v6, e6, o6⟩ := int_of_trod hy6
  obtain ⟨y7, hy7⟩ := fieldTrod hx (by decide) (H 7 _ rfl)
  change DataW.trod enc Tryz.prog W base sp held n 3 (List.take (Tryz.prog.cellsOf 3) (List.drop 7 [c0, c1, c2, c3, c4, c5, c6, c7, c8])) = some y7 at hy7
  simp only [show Tryz.prog.cellsOf 3 = 1 from by kernel_rfl, List.drop, List.take] at hy7
  obtain ⟨v7, e7, o7⟩ := int_of_trod hy7
  obtain ⟨y8, hy8⟩ := fieldTrod hx (by decide) (H 8 _ rfl)
  change DataW.trod enc Tryz.prog W base sp held n 3 (List.take (Tryz.prog.cellsOf 3) (List.drop 8 [c0, c1, c2, c3, c4, c5, c6, c7, c8])) = some y8 at hy8
  simp only [show Tryz.prog.cellsOf 3 = 1 from by kernel_rfl, List.drop, List.take] at hy8
  obtain ⟨v8, e8, o8⟩ := int_of_trod hy8
  obtain rfl := one_eq e0
  obtain rfl := one_eq e1
  obtain rfl := one_eq e2
  obtain rfl := one_eq e3
  obtain rfl := one_eq e4
  obtain rfl := one_eq e5
  obtain rfl := one_eq e6
  obtain rfl := one_eq e7
  obtain rfl := one_eq e8
  exact ⟨⟨v0, v1, v2, v3, v4, v5, v6, v7, v8⟩, rfl, ⟨o0, o1, o2, o3, o4, o5, o6, o7, o8⟩⟩
theorem Draws.of_trod (h : DataW.trod enc Tryz.prog W base sp held fuel 38 cs = some x) : ∃ d : Draws, cs = d.cells ∧ d.ok := by
  obtain ⟨xs, n, rfl, _, hl, hx, H⟩ := DataW.trod_array Tryz.underlying38 h
  rw [show Tryz.prog.cellsOf 38 = 3 from by kernel_rfl] at hl
  obtain ⟨c0, c1, c2, rfl⟩ := len3 hl
  obtain ⟨y0, hy0⟩ := fieldTrod hx (by decide) (H 0 (by decide))
  simp only [show Tryz.prog.cellsOf 3 = 1 from by kernel_rfl, List.drop, List.take, Nat.mul_one, Nat.zero_mul] at hy0
  obtain ⟨v0, e0, o0⟩ := int_of_trod hy0
  obtain ⟨y1, hy1⟩ := fieldTrod hx (by decide) (H 1 (by decide))
  simp only [show Tryz.prog.cellsOf 3 = 1 from by kernel_rfl, List.drop, List.take, Nat.mul_one, Nat.zero_mul] at hy1
  obtain ⟨v1, e1, o1⟩ := int_of_trod hy1
  obtain ⟨y2, hy2⟩ := fieldTrod hx (by decide) (H 2 (by decide))
  simp only [show Tryz.prog.cellsOf 3 = 1 from by kernel_rfl, List.drop, List.take, Nat.mul_one, Nat.zero_mul] at hy2
  obtain ⟨v2, e2, o2⟩ := int_of_trod hy2
  obtain rfl := one_eq e0
  obtain rfl := one_eq e1
  obtain rfl := one_eq e2
  exact ⟨⟨v0, v1, v2⟩, rfl, ⟨o0, o1, o2⟩⟩
theorem Pair.of_trod (h : DataW.trod enc Tryz.prog W base sp held fuel 72 cs = some x) : ∃ d : Pair, cs = d.cells ∧ d.ok := by
  obtain ⟨xs, n, rfl, _, hl, hx, H⟩ := DataW.trod_array Tryz.underlying72 h
  rw [show Tryz.prog.cellsOf 72 = 2 from by kernel_rfl] at hl
  obtain ⟨c0, c1, rfl⟩ := len2 hl
  obtain ⟨y0, hy0⟩ := fieldTrod hx (by decide) (H 0 (by decide))
  simp only [show Tryz.prog.cellsOf 3 = 1 from by kernel_rfl, List.drop, List.take, Nat.mul_one, Nat.zero_mul] at hy0
  obtain ⟨v0, e0, o0⟩ := int_of_trod hy0
  obtain ⟨y1, hy1⟩ := fieldTrod hx (by decide) (H 1 (by decide))
  simp only [show Tryz.prog.cellsOf 3 = 1 from by kernel_rfl, List.drop, List.take, Nat.mul_one, Nat.zero_mul] at hy1
  obtain ⟨v1, e1, o1⟩ := int_of_trod hy1
  obtain rfl := one_eq e0
  obtain rfl := one_eq e1
  exact ⟨⟨v0, v1⟩, rfl, ⟨o0, o1⟩⟩
theorem Act15.of_trod (h : DataW.trod enc Tryz.prog W base sp held fuel 46 cs = some x) : ∃ d : Act15, cs = d.cells ∧ d.ok := by
  obtain ⟨xs, n, rfl, _, hl, hx, H⟩ := DataW.trod_struct Tryz.underlying46 h
  rw [show Tryz.prog.cellsOf 46 = 18 from by kernel_rfl] at hl
  obtain ⟨c0, c1, c2, c3, c4, c5, c6, c7, c8, c9, c10, c11, c12, c13, c14, c15, c16, c17, rfl⟩ := len18 hl
  obtain ⟨y0, hy0⟩ := fieldTrod hx (by decide) (H 0 _ rfl)
  change DataW.trod enc Tryz.prog W base sp held n 3 (List.take (Tryz.prog.cellsOf 3) (List.drop 0 [c0, c1, c2, c3, c4, c5, c6, c7, c8, c9, c10, c11, c12, c13, c14, c15, c16, c17])) = some y0 at hy0
  simp only [show Tryz.prog.cellsOf 3 = 1 from by kernel_rfl, List.drop, List.take] at hy0
  obtain ⟨v0, e0, o0⟩ := int_of_trod hy0
  obtain ⟨y1, hy1⟩ := fieldTrod hx (by decide) (H 1 _ rfl)
  change DataW.trod enc Tryz.prog W base sp held n 25 (List.take (Tryz.prog.cellsOf 25) (List.drop 1 [c0, c1, c2, c3, c4, c5, c6, c7, c8, c9, c10, c11, c12, c13, c14, c15, c16, c17])) = some y1 at hy1
  simp only [show Tryz.prog.cellsOf 25 = 3 from by kernel_rfl, List.drop, List.take] at hy1
  obtain ⟨v1, e1, o1⟩ := Op.of_trod hy1
  obtain ⟨y2, hy2⟩ := fieldTrod hx (by decide) (H 2 _ rfl)
  change DataW.trod enc Tryz.prog W base sp held n 44 (List.take (Tryz.prog.cellsOf 44) (List.drop 4 [c0, c1, c2, c3, c4, c5, c6, c7, c8, c9, c10, c11, c12, c13, c14, c15, c16, c17])) = some y2 at hy2
  simp only [show Tryz.prog.cellsOf 44 = 11 from by kernel_rfl, List.drop, List.take] at hy2
  obtain ⟨v2, e2, o2⟩ := Letter.of_trod hy2
  obtain ⟨y3, hy3⟩ := fieldTrod hx (by decide) (H 3 _ rfl)
  change DataW.trod enc Tryz.prog W base sp held n 38 (List.take (Tryz.prog.cellsOf 38) (List.drop 15 [c0, c1, c2, c3, c4, c5, c6, c7, c8, c9, c10, c11, c12, c13, c14, c15, c16, c17])) = some y3 at hy3
  simp only [show Tryz.prog.cellsOf 38 = 3 from by kernel_rfl, List.drop, List.take] at hy3
  obtain ⟨v3, e3, o3⟩ := Draws.of_trod hy3
  obtain rfl := one_eq e0
  simp only [Op.cells, List.cons.injEq, and_true] at e1
  simp only [Letter.cells, List.cons.injEq, and_true] at e2
  simp only [Draws.cells, List.cons.injEq, and_true] at e3
  obtain ⟨rfl, rfl, rfl⟩ := e1
  obtain ⟨rfl, rfl, rfl, rfl, rfl, rfl, rfl, rfl, rfl, rfl, rfl⟩ := e2
  obtain ⟨rfl, rfl, rfl⟩ := e3
  exact ⟨⟨v0, v1, v2, v3⟩, rfl, ⟨o0, o1, o2, o3⟩⟩

/-- A slice that came in: its elements' cells, one behind the other. -/
theorem slice_of_trod {α : Type} {t e sz : Nat} {ok : α → Prop} {cells : α → List Value} {v : Value} (ht : Tryz.prog.underlying t = some (.slice e)) (hsz : Tryz.prog.cellsOf e = sz) (hpos : 0 < sz) (hlen : ∀ d, (cells d).length = sz)
    (hread : ∀ {fuel : Nat} {cs : List Value} {x : DataW H × List MemPlace}, DataW.trod enc Tryz.prog W base sp held fuel e cs = some x → ∃ d : α, cs = cells d ∧ ok d)
    (h : DataW.trod enc Tryz.prog W base sp held fuel t v.cells.toList = some x) (hv : ∃ a l c, v = .slice a l c) : ∃ l : List α, SliceIs W sz v (l.map cells) ∧ ∀ d ∈ l, ok d := by
  obtain ⟨a, len, cap, rfl⟩ := hv
  rcases open_slice ht h with ⟨hcs, _⟩ | ⟨ad, len', cap', m, n, D, Pl, hcs, _, hlc, hcm, hm, _, hall⟩
  · simp [Value.cells] at hcs
    obtain ⟨rfl, rfl, rfl⟩ := hcs
    exact ⟨[], ⟨none, 0, rfl, Nat.zero_le _, by simp, fun h0 => absurd h0 (by simp)⟩, by simp⟩
  · simp [Value.cells] at hcs
    obtain ⟨rfl, rfl, rfl⟩ := hcs
    unfold maxLen at hcm
    have hlm : len ≤ m := by rw [hm]; split <;> omega
    have hx : ∀ i, i < len → ∃ d : α, W.cells? base (ad.add (i * sz)) sz = some (cells d) ∧ ok d := by
      intro i hi
      obtain ⟨cs', h1, h2⟩ := hall i (by omega)
      obtain ⟨d, rfl, hd⟩ := hread h2
      rw [hsz] at h1
      exact ⟨d, h1, hd⟩
    rcases Nat.eq_zero_or_pos len with h0 | h0
    · subst h0
      exact ⟨[], ⟨some ad, cap, rfl, Nat.zero_le _, by simp, fun h0 => absurd h0 (by simp)⟩, by simp⟩
    · obtain ⟨d0, hd0, _⟩ := hx 0 h0
      haveI : Inhabited α := ⟨d0⟩
      obtain ⟨f, hf⟩ := choose_lt hx
      have hcell : ∀ i, i < len → ∀ j u, (cells (f i))[j]? = some u → W.cell? (ad.add (i * sz + j)) = some u := by
        intro i hi j u hu
        have h1 := (hf i hi).1
        obtain ⟨_, _, h4⟩ := World.cells?_some h1
        have := h4 j (by have := (List.getElem?_eq_some_iff.1 hu).1; rw [hlen] at this; exact this)
        rw [add_add] at this
        rw [this, hu]
      obtain ⟨b, off, spot⟩ := ad
      have hspot : spot = none := by
        obtain ⟨u, hu⟩ : ∃ u, (cells (f 0))[0]? = some u := ⟨_, List.getElem?_eq_getElem (by rw [hlen]; exact hpos)⟩
        have := hcell 0 h0 0 u hu
        rw [Nat.zero_mul, Nat.zero_add] at this
        exact World.cell?_spot this
      subst hspot
      refine ⟨(List.range len).map f, ⟨_, cap, by simp, by simpa using hlc, by simp; omega, fun _ => ⟨b, off, rfl, fun i r hr j u hu => ?_⟩⟩, ?_⟩
      · simp only [List.map_map, List.getElem?_map] at hr
        by_cases hi : i < len
        · simp [hi] at hr
          subst hr
          have := hcell i hi j u hu
          rwa [Addr.add_mid, ← Nat.add_assoc] at this
        · simp [hi] at hr
      · intro d hd
        simp only [List.mem_map, List.mem_range] at hd
        obtain ⟨i, hi, rfl⟩ := hd
        exact (hf i hi).2
end

theorem law_own : ownKnob Tryz.prog.godebug = none := by kernel_rfl
theorem law_laidOut : laidOutB Tryz.prog = true := by kernel_rfl
theorem one_value {w : World} {base t : Nat} {v u : Value} (hv : Value.okWide Tryz.prog w .any base t v) (ht : Tryz.prog.underlying t = some (.int .i64)) (h : v.cells.toList = [u]) : v = u := by
  obtain ⟨n, rfl⟩ := okWide_int ht hv
  simpa [Value.cells] using h
theorem okWide_array {P : Program} {w : World} {r : Reach} {base t n : Nat} {e : TypeId} {v : Value} (ht : P.underlying t = some (.array n e)) (h : Value.okWide P w r base t v) : ∃ cs, v = .agg cs ∧ cs.size = P.cellsOf t := by
  unfold Value.okWide at h
  rw [ht] at h
  cases v <;> simp_all
end Go.Proofs.YtchlioikkhnidaaGreat
