/-
  The statements on lines: what wakes them.
-/
import Derived.Test.YtamidchoghmmgaaLnR3
import Derived.Test.YtamidchoghmmgaaLnR5
import Derived.Test.YtamidchoghmmgaaR
namespace Go.Proofs.Ytamidchoghmmgaa
open Go.RowKit Go.Sort Go.ChangeShapes Go.WideShapes Go.ChangeAt
open Go.ChangeMaps (setBlock)
set_option linter.unusedVariables false
set_option linter.unusedSimpArgs false

theorem Moves.low {w w' : World} {F F' : Nat → Prop} {n : Nat} (h : Moves w w' F F') (h1 : ∀ j, F j → n ≤ j) (h2 : n ≤ w.heap.size) : ∀ j, F' j → n ≤ j := fun j hj => by
  rcases h.fresh j hj with h3 | h3
  · exact h1 j h3
  · omega
theorem Moves.below {w0 w w' : World} {F F' : Nat → Prop} (hb : Below w0.heap.size w0 w) (h : Moves w w' F F') (h1 : ∀ j, F j → w0.heap.size ≤ j) : Below w0.heap.size w0 w' :=
  below_chg hb h.chg fun j hj e => by have := h1 j e; omega

theorem RefAt.lt {w : World} {p : Nat} {s : Lines} {F : Nat → Prop} (h : RefAt w p s F) {j : Nat} (hj : F j) : j < w.heap.size := by
  obtain ⟨_, _, _, h3⟩ := h; exact h3 j hj
theorem LinesAt.lt {w : World} {p : Nat} {s : Lines} {F : Nat → Prop} (h : LinesAt w p s F) {j : Nat} (hj : F j) : j < w.heap.size := by
  obtain ⟨_, _, _, _, _, h3⟩ := h; exact h3 j hj
theorem act08At {l : List Act08} {w w' : World} {b off k : Nat} (h : RowsAt w b off 2 (l.map Act08.cells)) (hb : Below w.heap.size w w') (hk : k < l.length) : w'.rangeAt b (off + k * 2) (l[k]).cells :=
  rangeAt_below (h k _ (by simp [hk])) hb
/-- A place that stands where the world began. -/
structure At0 (w0 w : World) (p : Nat) (s : Lines) (F : Nat → Prop) : Prop where
  here : LinesAt w p s F
  low : ∀ j, F j → w0.heap.size ≤ j
  below : Below w0.heap.size w0 w
theorem At0.moves {w0 w w' : World} {p : Nat} {s s' : Lines} {F F' : Nat → Prop} (h : At0 w0 w p s F) (h1 : LinesAt w' p s' F') (m : Moves w w' F F') : At0 w0 w' p s' F' :=
  ⟨h1, m.low h.low h.below.size, m.below h.below h.low⟩
theorem At0.same {w0 w w' : World} {p : Nat} {s : Lines} {F : Nat → Prop} (h : At0 w0 w p s F) (h1 : Below w.heap.size w w') : At0 w0 w' p s F :=
  ⟨h.here.below h1, h.low, below_trans h.below h1⟩
theorem At0.drewN {w0 w : World} {p : Nat} {s : Lines} {F : Nat → Prop} (h : At0 w0 w p s F) (n : Nat) : At0 w0 (w.drewN n) p s F :=
  h.same (Chg.below ((Chg.refl _ _).drewN _))

def k0 : Lines := Lines.new 1 2
def k4 : Lines := (((k0.add 4).add 7).use 4).add 9

set_option maxHeartbeats 2000000 in
set_option maxRecDepth 20000 in
theorem lnAwake_calls (w : World) : Calls Try.prog 7 #[] w fun e w' => e = .returned (.bool true) ∧ Below w.heap.size w w' := by
  go_enter Try.func7, Try.ntmps7
  go_wp2_with fail
  refine (LinesNew_calls 1 2 w).mono ?_
  rintro e w1 ⟨p, F1, rfl, h1, hF1, hb1⟩
  have a1 : At0 w w1 p k0 F1 := ⟨h1, hF1, hb1⟩
  have A1 := Lib.hid a1
  clear h1 hF1 hb1 a1
  go_wp2_with fail
  refine (Add_calls 4 A1.out.here).mono ?_
  rintro e w2 ⟨rfl, F2, h2, m2⟩
  rw [show k0.can 4 = true from by decide]
  have A2 := Lib.hid (A1.out.moves h2 m2)
  clear h2 m2 A1
  go_wp2_with fail
  refine (Add_calls 7 A2.out.here).mono ?_
  rintro e w3 ⟨rfl, F3, h3, m3⟩
  rw [show (k0.add 4).can 7 = true from by decide]
  have A3 := Lib.hid (A2.out.moves h3 m3)
  clear h3 m3 A2
  go_wp2_with fail
  refine (Use_calls 4 A3.out.here).mono ?_
  rintro e w4 ⟨rfl, F4, h4, m4⟩
  rw [show ((k0.add 4).add 7).has 4 = true from by decide]
  have A4 := Lib.hid (A3.out.moves h4 m4)
  clear h4 m4 A3
  go_wp2_with fail
  refine (Add_calls 9 A4.out.here).mono ?_
  rintro e w5 ⟨rfl, F5, h5, m5⟩
  rw [show (((k0.add 4).add 7).use 4).can 9 = false from by decide]
  have A5 := Lib.hid (A4.out.moves h5 m5)
  clear h5 m5 A4
  rw [show (((k0.add 4).add 7).use 4).add 9 = ⟨1, 2, [7, 4]⟩ from by kernel_rfl] at A5
  have v1 : (⟨1, 2, [7, 4]⟩ : Lines).victim 9 (-1) = (7, true) := by kernel_rfl
  have v2 : (⟨1, 2, [7, 4]⟩ : Lines).victim 9 7 = (4, true) := by kernel_rfl
  have v3 : (⟨1, 2, [7, 4]⟩ : Lines).victim 4 4 = (-1, true) := by kernel_rfl
  go_wp2_with fail
  refine (Victim_calls 9 (-1) (A5.out.same (Chg.below (by repeat (first | with_reducible exact Chg.refl _ _ | with_reducible exact chg0 | with_reducible refine Chg.drewN ?_ _ | with_reducible refine Chg.drew ?_ | with_reducible refine Chg.alloc ?_ _ | with_reducible refine Chg.setCell ?_ _ _ (by first | (simp; done) | omega | (simp; omega)) | with_reducible refine Chg.setBlock ?_ _ _ (by first | (simp; done) | omega | (simp; omega)) | exact Chg.refl _ _)))).here).mono ?_
  rintro e w' ⟨rfl, n1, rfl⟩
  rw [v1]
  go_wp2_with fail
  refine (Victim_calls 9 7 (A5.out.same (Chg.below (by repeat (first | with_reducible exact Chg.refl _ _ | with_reducible exact chg0 | with_reducible refine Chg.drewN ?_ _ | with_reducible refine Chg.drew ?_ | with_reducible refine Chg.alloc ?_ _ | with_reducible refine Chg.setCell ?_ _ _ (by first | (simp; done) | omega | (simp; omega)) | with_reducible refine Chg.setBlock ?_ _ _ (by first | (simp; done) | omega | (simp; omega)) | exact Chg.refl _ _)))).here).mono ?_
  rintro e w' ⟨rfl, n2, rfl⟩
  rw [v2]
  go_wp2_with fail
  refine (Victim_calls 4 4 (A5.out.same (Chg.below (by repeat (first | with_reducible exact Chg.refl _ _ | with_reducible exact chg0 | with_reducible refine Chg.drewN ?_ _ | with_reducible refine Chg.drew ?_ | with_reducible refine Chg.alloc ?_ _ | with_reducible refine Chg.setCell ?_ _ _ (by first | (simp; done) | omega | (simp; omega)) | with_reducible refine Chg.setBlock ?_ _ _ (by first | (simp; done) | omega | (simp; omega)) | exact Chg.refl _ _)))).here).mono ?_
  rintro e w' ⟨rfl, n3, rfl⟩
  rw [v3]
  go_wp2_with fail
  refine (List_calls (A5.out.same (Chg.below (by repeat (first | with_reducible exact Chg.refl _ _ | with_reducible exact chg0 | with_reducible refine Chg.drewN ?_ _ | with_reducible refine Chg.drew ?_ | with_reducible refine Chg.alloc ?_ _ | with_reducible refine Chg.setCell ?_ _ _ (by first | (simp; done) | omega | (simp; omega)) | with_reducible refine Chg.setBlock ?_ _ _ (by first | (simp; done) | omega | (simp; omega)) | exact Chg.refl _ _)))).here).mono ?_
  rintro e w6 ⟨u, rfl, hu, hul, hb6⟩
  have el : (⟨1, 2, [7, 4]⟩ : Lines).list = [4, 7] := (sort_unique (l := [7, 4]) (s := [4, 7]) (List.Perm.swap _ _ _) (by decide)).symm
  rw [el] at hu
  have A6 := Lib.hid ((A5.out.same (Chg.below (by repeat (first | with_reducible exact Chg.refl _ _ | with_reducible exact chg0 | with_reducible refine Chg.drewN ?_ _ | with_reducible refine Chg.drew ?_ | with_reducible refine Chg.alloc ?_ _ | with_reducible refine Chg.setCell ?_ _ _ (by first | (simp; done) | omega | (simp; omega)) | with_reducible refine Chg.setBlock ?_ _ _ (by first | (simp; done) | omega | (simp; omega)) | exact Chg.refl _ _)))).same hb6)
  have Hu := Lib.hid hu.slice
  clear hu hul hb6 A5
  go_wp2_with fail
  refine (Ints_calls [4, 7] [4, 7] _ _ _ (Hu.out.below (Chg.below (by repeat (first | with_reducible exact Chg.refl _ _ | with_reducible exact chg0 | with_reducible refine Chg.drewN ?_ _ | with_reducible refine Chg.drew ?_ | with_reducible refine Chg.alloc ?_ _ | with_reducible refine Chg.setCell ?_ _ _ (by first | (simp; done) | omega | (simp; omega)) | with_reducible refine Chg.setBlock ?_ _ _ (by first | (simp; done) | omega | (simp; omega)) | exact Chg.refl _ _)))) (OwnSl.made (c := _) (e := 3) (ob_alloc_new _ _ _ rfl) (ints_ok [4, 7]) (by rfl) (by decide)).slice).mono ?_
  rintro e w7 ⟨rfl, n7, rfl⟩
  rw [show decide ([4, 7] = ([4, 7] : List Int)) = true from rfl]
  go_wp2_with fail
  refine (Has_calls 7 (A6.out.same (Chg.below (by repeat (first | with_reducible exact Chg.refl _ _ | with_reducible exact chg0 | with_reducible refine Chg.drewN ?_ _ | with_reducible refine Chg.drew ?_ | with_reducible refine Chg.alloc ?_ _ | with_reducible refine Chg.setCell ?_ _ _ (by first | (simp; done) | omega | (simp; omega)) | with_reducible refine Chg.setBlock ?_ _ _ (by first | (simp; done) | omega | (simp; omega)) | exact Chg.refl _ _)))).here).mono ?_
  rintro e w' ⟨rfl, n8, rfl⟩
  rw [show (⟨1, 2, [7, 4]⟩ : Lines).has 7 = true from rfl]
  go_wp2_with fail
  refine (Has_calls 9 (A6.out.same (Chg.below (by repeat (first | with_reducible exact Chg.refl _ _ | with_reducible exact chg0 | with_reducible refine Chg.drewN ?_ _ | with_reducible refine Chg.drew ?_ | with_reducible refine Chg.alloc ?_ _ | with_reducible refine Chg.setCell ?_ _ _ (by first | (simp; done) | omega | (simp; omega)) | with_reducible refine Chg.setBlock ?_ _ _ (by first | (simp; done) | omega | (simp; omega)) | exact Chg.refl _ _)))).here).mono ?_
  rintro e w' ⟨rfl, n9, rfl⟩
  rw [show (⟨1, 2, [7, 4]⟩ : Lines).has 9 = false from rfl]
  go_wp2_with fail
  go_ret
  exact ⟨rfl, (A6.out.same (Chg.below (by repeat (first | with_reducible exact Chg.refl _ _ | with_reducible exact chg0 | with_reducible refine Chg.drewN ?_ _ | with_reducible refine Chg.drew ?_ | with_reducible refine Chg.alloc ?_ _ | with_reducible refine Chg.setCell ?_ _ _ (by first | (simp; done) | omega | (simp; omega)) | with_reducible refine Chg.setBlock ?_ _ _ (by first | (simp; done) | omega | (simp; omega)) | exact Chg.refl _ _)))).below⟩
end Go.Proofs.Ytamidchoghmmgaa
