/-
  The statements on the node: two places that are the same, the document's new node, what is made.
-/
import Derived.Test.YtchlioikkhnidaaGreatMN9
import Derived.Test.YtchlioikkhnidaaGreatMN10
import Derived.Test.YtchlioikkhnidaaGreatMN11
import Derived.Test.YtchlioikkhnidaaGreatMN2
import Derived.Test.YtchlioikkhnidaaGreatML
import Derived.Test.YtchlioikkhnidaaGreatMB
set_option linter.unusedVariables false
set_option linter.unusedSimpArgs false
namespace Go.Proofs.YtchlioikkhnidaaGreat
open Go.RowKit Go.Sort Go.ChangeShapes Go.WideShapes Go.ChangeAt
open Go.ChangeMaps (setBlock)
set_option linter.unusedVariables false
set_option linter.unusedSimpArgs false
section
variable {w w' w'' w0 : World} {a : NAddr} {q : Nat} {n n' : Node} {L L' : List Letter} {D D' : List Done} {F F' FC FC' : Nat → Prop} {v1 v2 : Value}
theorem Moves.low' {n : Nat} (h : Moves w w' F F') (h1 : ∀ j, F j → n ≤ j) (h2 : n ≤ w.heap.size) : ∀ j, F' j → n ≤ j := fun j hj => by
  rcases h.fresh j hj with h3 | h3
  · exact h1 j h3
  · omega
theorem Moves.below' (hb : Below w0.heap.size w0 w) (h : Moves w w' F F') (h1 : ∀ j, F j → w0.heap.size ≤ j) : Below w0.heap.size w0 w' :=
  below_chg hb h.chg fun j hj e => by have := h1 j e; omega
/-- A node that stands where the world began. -/
structure Nd0 (w0 w : World) (a : NAddr) (n : Node) (FC : Nat → Prop) : Prop where
  here : NodeIn w a n FC
  low : ∀ j, nFp a FC j → w0.heap.size ≤ j
  below : Below w0.heap.size w0 w
theorem Nd0.same (h : Nd0 w0 w a n FC) (h1 : Below w.heap.size w w') : Nd0 w0 w' a n FC := ⟨h.here.below h1, h.low, below_trans h.below h1⟩
theorem Nd0.moves (h : Nd0 w0 w a n FC) (h1 : NodeIn w' a n' FC') (m : Moves w w' (nFp a FC) (nFp a FC')) : Nd0 w0 w' a n' FC' :=
  ⟨h1, m.low' h.low h.below.size, m.below' h.below h.low⟩
theorem Nd0.sent (h : Nd0 w0 w a n FC) (hs : Sent w w' a n' FC FC' v1 v2 L D) : Nd0 w0 w' a n' FC' := h.moves hs.node hs.moves
/-- What was sent, and is over, stands where the world began too. -/
theorem Nd0.outs (h : Nd0 w0 w a n FC) (hs : Sent w w' a n' FC FC' v1 v2 L D) : Own0 w0 w' 44 11 v1 (L.map Letter.cells) ∧ Own0 w0 w' 60 7 v2 (D.map Done.cells) :=
  ⟨⟨hs.letters, fun j hj => (hs.apart1 j hj).2.elim (h.low j) (Nat.le_trans h.below.size)⟩, ⟨hs.done, fun j hj => (hs.apart2 j hj).2.elim (h.low j) (Nat.le_trans h.below.size)⟩⟩
set_option maxHeartbeats 4000000 in
set_option maxRecDepth 20000 in
theorem place_same (L : List Line) (K : List Active) (busy : Bool) (op : Op) (va1 va2 vb1 vb2 : Value) (w : World) (h1 : SliceIs w 5 va1 (L.map Line.cells)) (h2 : SliceIs w 5 vb1 (L.map Line.cells)) (h3 : SliceIs w 3 va2 (K.map Active.cells)) (h4 : SliceIs w 3 vb2 (K.map Active.cells)) :
    Calls Tryz.prog 17 #[.agg #[va1, .bool busy, .int .i64 op.block, .bool op.write, .int .i64 op.value, va2], .agg #[vb1, .bool busy, .int .i64 op.block, .bool op.write, .int .i64 op.value, vb2]] w (Pure w (.bool true)) := by
  obtain ⟨A1, c1, e1, _⟩ := sliceOf h1
  obtain ⟨A2, c2, e2, _⟩ := sliceOf h2
  obtain ⟨A3, c3, e3, _⟩ := sliceOf h3
  obtain ⟨A4, c4, e4, _⟩ := sliceOf h4
  subst e1; subst e2; subst e3; subst e4
  have H1 := Lib.hid h1
  have H2 := Lib.hid h2
  have H3 := Lib.hid h3
  have H4 := Lib.hid h4
  clear h1 h2 h3 h4
  go_enter Tryz.func17, Tryz.ntmps17
  go_wp2_with fail
  refine (LineSame_calls L _ _ _ (H1.out.below (Chg.below (by repeat (first | with_reducible exact Chg.refl _ _ | with_reducible exact chg0 | with_reducible refine Chg.drewN ?_ _ | with_reducible refine Chg.drew ?_ | with_reducible refine Chg.alloc ?_ _ | with_reducible refine Chg.setCell ?_ _ _ (by first | (simp; done) | omega | (simp; omega)) | with_reducible refine Chg.setBlock ?_ _ _ (by first | (simp; done) | omega | (simp; omega)) | exact Chg.refl _ _)))) (H2.out.below (Chg.below (by repeat (first | with_reducible exact Chg.refl _ _ | with_reducible exact chg0 | with_reducible refine Chg.drewN ?_ _ | with_reducible refine Chg.drew ?_ | with_reducible refine Chg.alloc ?_ _ | with_reducible refine Chg.setCell ?_ _ _ (by first | (simp; done) | omega | (simp; omega)) | with_reducible refine Chg.setBlock ?_ _ _ (by first | (simp; done) | omega | (simp; omega)) | exact Chg.refl _ _))))).mono ?_
  rintro e w2 ⟨rfl, n2, rfl⟩
  go_wp2_with fail
  refine (active_same K _ _ _ (H3.out.below (Chg.below (by repeat (first | with_reducible exact Chg.refl _ _ | with_reducible exact chg0 | with_reducible refine Chg.drewN ?_ _ | with_reducible refine Chg.drew ?_ | with_reducible refine Chg.alloc ?_ _ | with_reducible refine Chg.setCell ?_ _ _ (by first | (simp; done) | omega | (simp; omega)) | with_reducible refine Chg.setBlock ?_ _ _ (by first | (simp; done) | omega | (simp; omega)) | exact Chg.refl _ _)))) (H4.out.below (Chg.below (by repeat (first | with_reducible exact Chg.refl _ _ | with_reducible exact chg0 | with_reducible refine Chg.drewN ?_ _ | with_reducible refine Chg.drew ?_ | with_reducible refine Chg.alloc ?_ _ | with_reducible refine Chg.setCell ?_ _ _ (by first | (simp; done) | omega | (simp; omega)) | with_reducible refine Chg.setBlock ?_ _ _ (by first | (simp; done) | omega | (simp; omega)) | exact Chg.refl _ _))))).mono ?_
  rintro e w3 ⟨rfl, n3, rfl⟩
  go_wp2_with fail
  go_ret
  exact pure_of rfl (by repeat (first | with_reducible exact Chg.refl _ _ | with_reducible exact chg0 | with_reducible refine Chg.drewN ?_ _ | with_reducible refine Chg.drew ?_ | with_reducible refine Chg.alloc ?_ _ | with_reducible refine Chg.setCell ?_ _ _ (by first | (simp; done) | omega | (simp; omega)) | with_reducible refine Chg.setBlock ?_ _ _ (by first | (simp; done) | omega | (simp; omega)) | exact Chg.refl _ _))
def small15 : Config := ⟨2, 2, 3, 1, 1, 9, 1, 0, 1⟩
set_option maxHeartbeats 4000000 in
theorem small15_calls (w : World) : Calls Tryz.prog 31 #[] w (Pure w small15.val) := by
  simp only [small15, Config.val, Config.cells]
  go_enter Tryz.func31, Tryz.ntmps31
  go_wp2_with fail
  (try simp only [Exit.inBlock, Exit.then])
  refine bodyRet1 _ rfl rfl (ResIs.row Tryz.underlying23 rfl (by kernel_rfl) rfl (by simp [go_sem]; exact ⟨rfl, rfl, rfl⟩)) ?_
  exact pure_of rfl (by repeat (first | with_reducible exact Chg.refl _ _ | with_reducible exact chg0 | with_reducible refine Chg.drewN ?_ _ | with_reducible refine Chg.drew ?_ | with_reducible refine Chg.alloc ?_ _ | with_reducible refine Chg.setCell ?_ _ _ (by first | (simp; done) | omega | (simp; omega)) | with_reducible refine Chg.setBlock ?_ _ _ (by first | (simp; done) | omega | (simp; omega)) | exact Chg.refl _ _))
theorem rcAny.step {t : Value} {c : Lines} {D : List Line} {lo hi : Nat} (h : ∃ p lp F, t = .pointer (some ⟨p, 0, none⟩) ∧ RcAt w p lp c D F ∧ ∀ j, F j → lo ≤ j ∧ j < hi) (hb : Below w.heap.size w w') : ∃ p lp F, t = .pointer (some ⟨p, 0, none⟩) ∧ RcAt w' p lp c D F ∧ ∀ j, F j → lo ≤ j ∧ j < hi := by
  obtain ⟨p, lp, F, h1, h2, h3⟩ := h
  exact ⟨p, lp, F, h1, h2.below hb, h3⟩
theorem ptrAny.step {t : Value} {o : Obj} {lo hi : Nat} (h : ∃ p, t = .pointer (some ⟨p, 0, none⟩) ∧ ob w p = some o ∧ lo ≤ p ∧ p < hi) (hb : Below w.heap.size w w') : ∃ p, t = .pointer (some ⟨p, 0, none⟩) ∧ ob w' p = some o ∧ lo ≤ p ∧ p < hi := by
  obtain ⟨p, h1, h2, h3⟩ := h
  exact ⟨p, h1, ob_step hb h2, h3⟩
set_option maxHeartbeats 8000000 in
set_option maxRecDepth 20000 in
theorem RefNodeNew_calls (c : Config) (id : Int) (w : World) :
    Calls Tryz.prog 30 #[c.val, .int .i64 id] w fun e w' => ∃ p p1 lp1 F1 p2 p3, e = .returned (.pointer (some ⟨p, 0, none⟩)) ∧ ob w' p = some (.cells #[.int .i64 c.nodes, .int .i64 c.blocks, .int .i64 c.tokens, .int .i64 c.sets, .int .i64 c.ways, .int .i64 c.cap, .int .i64 c.wait, .int .i64 c.tries, .int .i64 c.policy, .int .i64 id, .pointer (some ⟨p1, 0, none⟩), .pointer (some ⟨p2, 0, none⟩), .pointer (some ⟨p3, 0, none⟩), .slice none 0 0, .slice none 0 0] 112 (0, 0)) ∧ RcAt w' p1 lp1 (Lines.new c.sets c.ways) [] F1 ∧ ob w' p2 = some (.cells #[.slice none 0 0, .slice none 0 0] 147 (0, 0)) ∧ ob w' p3 = some (.cells #[.int .i64 c.wait, .int .i64 c.tries, .int .i64 0, .int .i64 0, .bool false, .int .i64 0, .bool false, .int .i64 0, .int .i64 0, .bool false] 116 (0, 0)) ∧ (¬ F1 p2 ∧ ¬ F1 p3 ∧ p2 ≠ p3) ∧ (∀ j, F1 j → w.heap.size ≤ j ∧ j < p) ∧ (w.heap.size ≤ p2 ∧ w.heap.size ≤ p3 ∧ p2 < p ∧ p3 < p) ∧ Below w.heap.size w w' := by
  simp only [Config.val, Config.cells]
  go_enter Tryz.func30, Tryz.ntmps30
  go_upto_region 1 with fail
  obtain ⟨W, hW⟩ : ∃ W, W = (w.alloc (Obj.cells #[Value.int IntKind.i64 c.nodes, Value.int IntKind.i64 c.blocks, Value.int IntKind.i64 c.tokens, Value.int IntKind.i64 c.sets, Value.int IntKind.i64 c.ways, Value.int IntKind.i64 c.cap, Value.int IntKind.i64 c.wait, Value.int IntKind.i64 c.tries, Value.int IntKind.i64 c.policy] 23)) := ⟨_, rfl⟩
  rw [← hW]
  have HBW := Lib.hid (show Below w.heap.size w W by rw [hW]; exact Chg.below (by repeat (first | with_reducible exact Chg.refl _ _ | with_reducible exact chg0 | with_reducible refine Chg.drewN ?_ _ | with_reducible refine Chg.drew ?_ | with_reducible refine Chg.alloc ?_ _ | with_reducible refine Chg.setCell ?_ _ _ (by first | (simp; done) | omega | (simp; omega)) | with_reducible refine Chg.setBlock ?_ _ _ (by first | (simp; done) | omega | (simp; omega)) | exact Chg.refl _ _)))
  have oc : ob W w.heap.size = some (.cells #[Value.int IntKind.i64 c.nodes, Value.int IntKind.i64 c.blocks, Value.int IntKind.i64 c.tokens, Value.int IntKind.i64 c.sets, Value.int IntKind.i64 c.ways, Value.int IntKind.i64 c.cap, Value.int IntKind.i64 c.wait, Value.int IntKind.i64 c.tries, Value.int IntKind.i64 c.policy] 23 (0, 0)) := by rw [hW]; exact ob_alloc_at _ _
  clear hW
  have hS : W.cell? ⟨w.heap.size, 0, none⟩ = some (.int .i64 c.nodes) ∧ W.cell? ⟨w.heap.size, 1, none⟩ = some (.int .i64 c.blocks) ∧ W.cell? ⟨w.heap.size, 2, none⟩ = some (.int .i64 c.tokens) ∧ W.cell? ⟨w.heap.size, 3, none⟩ = some (.int .i64 c.sets) ∧ W.cell? ⟨w.heap.size, 4, none⟩ = some (.int .i64 c.ways) ∧ W.cell? ⟨w.heap.size, 5, none⟩ = some (.int .i64 c.cap) ∧ W.cell? ⟨w.heap.size, 6, none⟩ = some (.int .i64 c.wait) ∧ W.cell? ⟨w.heap.size, 7, none⟩ = some (.int .i64 c.tries) ∧ W.cell? ⟨w.heap.size, 8, none⟩ = some (.int .i64 c.policy) := ⟨cell_ob oc 0, cell_ob oc 1, cell_ob oc 2, cell_ob oc 3, cell_ob oc 4, cell_ob oc 5, cell_ob oc 6, cell_ob oc 7, cell_ob oc 8⟩
  have ld := ob_lt oc
  clear oc
  refine wp_region_held_drew (S := fun V => V.cell? ⟨w.heap.size, 0, none⟩ = some (.int .i64 c.nodes) ∧ V.cell? ⟨w.heap.size, 1, none⟩ = some (.int .i64 c.blocks) ∧ V.cell? ⟨w.heap.size, 2, none⟩ = some (.int .i64 c.tokens) ∧ V.cell? ⟨w.heap.size, 3, none⟩ = some (.int .i64 c.sets) ∧ V.cell? ⟨w.heap.size, 4, none⟩ = some (.int .i64 c.ways) ∧ V.cell? ⟨w.heap.size, 5, none⟩ = some (.int .i64 c.cap) ∧ V.cell? ⟨w.heap.size, 6, none⟩ = some (.int .i64 c.wait) ∧ V.cell? ⟨w.heap.size, 7, none⟩ = some (.int .i64 c.tries) ∧ V.cell? ⟨w.heap.size, 8, none⟩ = some (.int .i64 c.policy)) (by kernel_rfl) (by exact hS) (fun hHeld => ?_)
  refine take_at 0 (some 5) (v := ?v0) (by kernel_rfl) (by kernel_rfl) (by kernel_rfl) (by kernel_rfl) (fun _ _ _ _ h => h) (fun o ho => ?hy0) hHeld ?rest0
  case hy0 => (simp only [List.getElem?_toArray, List.getElem?_cons_succ, List.getElem?_cons_zero, Option.some.injEq] at ho; subst ho; refine Or.inl ⟨by rfl, ?_⟩; intro V hSw; (try dsimp only at hSw); go_simp <;> (try with_reducible rfl))
  (try simp only [Act.put, List.setIfInBounds_toArray, List.set_cons_zero, List.set_cons_succ])
  refine take_at 1 (some 6) (v := ?v1) (by kernel_rfl) (by kernel_rfl) (by kernel_rfl) (by kernel_rfl) (fun _ _ _ _ h => h) (fun o ho => ?hy1) hHeld ?rest1
  case hy1 => (simp only [List.getElem?_toArray, List.getElem?_cons_succ, List.getElem?_cons_zero, Option.some.injEq] at ho; subst ho; refine Or.inl ⟨by rfl, ?_⟩; intro V hSw; (try dsimp only at hSw); go_simp <;> (try with_reducible rfl))
  (try simp only [Act.put, List.setIfInBounds_toArray, List.set_cons_zero, List.set_cons_succ])
  refine take_at 2 (some 7) (v := ?v2) (by kernel_rfl) (by kernel_rfl) (by kernel_rfl) (by kernel_rfl) (fun _ _ _ _ h => h) (fun o ho => ?hy2) hHeld ?rest2
  case hy2 => (simp only [List.getElem?_toArray, List.getElem?_cons_succ, List.getElem?_cons_zero, Option.some.injEq] at ho; subst ho; refine Or.inl ⟨by rfl, ?_⟩; intro V hSw; (try dsimp only at hSw); go_simp <;> (try with_reducible rfl))
  (try simp only [Act.put, List.setIfInBounds_toArray, List.set_cons_zero, List.set_cons_succ])
  refine take_at 3 (some 8) (v := ?v3) (by kernel_rfl) (by kernel_rfl) (by kernel_rfl) (by kernel_rfl) (fun _ _ _ _ h => h) (fun o ho => ?hy3) hHeld ?rest3
  case hy3 => (simp only [List.getElem?_toArray, List.getElem?_cons_succ, List.getElem?_cons_zero, Option.some.injEq] at ho; subst ho; refine Or.inl ⟨by rfl, ?_⟩; intro V hSw; (try dsimp only at hSw); go_simp <;> (try with_reducible rfl))
  (try simp only [Act.put, List.setIfInBounds_toArray, List.set_cons_zero, List.set_cons_succ])
  refine take_at 4 (some 9) (v := ?v4) (by kernel_rfl) (by kernel_rfl) (by kernel_rfl) (by kernel_rfl) (fun _ _ _ _ h => h) (fun o ho => ?hy4) hHeld ?rest4
  case hy4 => (simp only [List.getElem?_toArray, List.getElem?_cons_succ, List.getElem?_cons_zero, Option.some.injEq] at ho; subst ho; refine Or.inl ⟨by rfl, ?_⟩; intro V hSw; (try dsimp only at hSw); go_simp <;> (try with_reducible rfl))
  (try simp only [Act.put, List.setIfInBounds_toArray, List.set_cons_zero, List.set_cons_succ])
  refine take_at 5 (some 10) (v := ?v5) (by kernel_rfl) (by kernel_rfl) (by kernel_rfl) (by kernel_rfl) (fun _ _ _ _ h => h) (fun o ho => ?hy5) hHeld ?rest5
  case hy5 => (simp only [List.getElem?_toArray, List.getElem?_cons_succ, List.getElem?_cons_zero, Option.some.injEq] at ho; subst ho; refine Or.inl ⟨by rfl, ?_⟩; intro V hSw; (try dsimp only at hSw); go_simp <;> (try with_reducible rfl))
  (try simp only [Act.put, List.setIfInBounds_toArray, List.set_cons_zero, List.set_cons_succ])
  refine take_at 7 (some 12) (v := ?v7) (by kernel_rfl) (by kernel_rfl) (by kernel_rfl) (by kernel_rfl) (fun _ _ _ _ h => h) (fun o ho => ?hy7) hHeld ?rest7
  case hy7 => (simp only [List.getElem?_toArray, List.getElem?_cons_succ, List.getElem?_cons_zero, Option.some.injEq] at ho; subst ho; refine Or.inl ⟨by rfl, ?_⟩; intro V hSw; (try dsimp only at hSw); go_simp <;> (try with_reducible rfl))
  (try simp only [Act.put, List.setIfInBounds_toArray, List.set_cons_zero, List.set_cons_succ])
  refine take_at 9 (some 14) (v := ?v9) (by kernel_rfl) (by kernel_rfl) (by kernel_rfl) (by kernel_rfl) (fun _ _ _ _ h => h) (fun o ho => ?hy9) hHeld ?rest9
  case hy9 => (simp only [List.getElem?_toArray, List.getElem?_cons_succ, List.getElem?_cons_zero, Option.some.injEq] at ho; subst ho; refine Or.inl ⟨by rfl, ?_⟩; intro V hSw; (try dsimp only at hSw); go_simp <;> (try with_reducible rfl))
  (try simp only [Act.put, List.setIfInBounds_toArray, List.set_cons_zero, List.set_cons_succ])
  refine take_at 10 (some 15) (v := ?v10) (by kernel_rfl) (by kernel_rfl) (by kernel_rfl) (by kernel_rfl) (fun _ _ _ _ h => h) (fun o ho => ?hy10) hHeld ?rest10
  case hy10 => (simp only [List.getElem?_toArray, List.getElem?_cons_succ, List.getElem?_cons_zero, Option.some.injEq] at ho; subst ho; refine Or.inl ⟨by rfl, ?_⟩; intro V hSw; (try dsimp only at hSw); go_simp <;> (try with_reducible rfl))
  (try simp only [Act.put, List.setIfInBounds_toArray, List.set_cons_zero, List.set_cons_succ])
  refine take_at 11 (some 16) (v := ?v11) (by kernel_rfl) (by kernel_rfl) (by kernel_rfl) (by kernel_rfl) (fun _ _ _ _ h => h) (fun o ho => ?hy11) hHeld ?rest11
  case hy11 => (simp only [List.getElem?_toArray, List.getElem?_cons_succ, List.getElem?_cons_zero, Option.some.injEq] at ho; subst ho; refine Or.inl ⟨by rfl, ?_⟩; intro V hSw; (try dsimp only at hSw); go_simp <;> (try with_reducible rfl))
  (try simp only [Act.put, List.setIfInBounds_toArray, List.set_cons_zero, List.set_cons_succ])
  refine take_at 12 (some 17) (v := ?v12) (by kernel_rfl) (by kernel_rfl) (by kernel_rfl) (by kernel_rfl) (fun _ _ _ _ h => h) (fun o ho => ?hy12) hHeld ?rest12
  case hy12 => (simp only [List.getElem?_toArray, List.getElem?_cons_succ, List.getElem?_cons_zero, Option.some.injEq] at ho; subst ho; refine Or.inl ⟨by rfl, ?_⟩; intro V hSw; (try dsimp only at hSw); go_simp <;> (try with_reducible rfl))
  (try simp only [Act.put, List.setIfInBounds_toArray, List.set_cons_zero, List.set_cons_succ])
  refine take_at 13 (some 18) (v := ?v13) (by kernel_rfl) (by kernel_rfl) (by kernel_rfl) (by kernel_rfl) (fun _ _ _ _ h => h) (fun o ho => ?hy13) hHeld ?rest13
  case hy13 => (simp only [List.getElem?_toArray, List.getElem?_cons_succ, List.getElem?_cons_zero, Option.some.injEq] at ho; subst ho; refine Or.inl ⟨by rfl, ?_⟩; intro V hSw; (try dsimp only at hSw); go_simp <;> (try with_reducible rfl))
  (try simp only [Act.put, List.setIfInBounds_toArray, List.set_cons_zero, List.set_cons_succ])
  refine inv_intro ?_
  intro Tz Lz0 hT hL0
  (try simp only at hT)
  refine wpAnyH_inv (J := fun fz Lz az V => ∃ (b0 : Bool) (b1 : Bool) (b2 : Bool) (t0 : Value) (t1 : Value) (t2 : Value) (gl0 gh0 gl1 gh1 gl2 gh2 : Nat), fz = 3 + ((cond b0 0 1) + (cond b1 0 1) + (cond b2 0 1)) ∧ Lz = (((Lz0.setIfInBounds 6 b0).setIfInBounds 8 b1).setIfInBounds 14 b2) ∧ az = ⟨(((Tz.setIfInBounds 11 t0).setIfInBounds 13 t1).setIfInBounds 19 t2), []⟩ ∧ (V.cell? ⟨w.heap.size, 0, none⟩ = some (.int .i64 c.nodes) ∧ V.cell? ⟨w.heap.size, 1, none⟩ = some (.int .i64 c.blocks) ∧ V.cell? ⟨w.heap.size, 2, none⟩ = some (.int .i64 c.tokens) ∧ V.cell? ⟨w.heap.size, 3, none⟩ = some (.int .i64 c.sets) ∧ V.cell? ⟨w.heap.size, 4, none⟩ = some (.int .i64 c.ways) ∧ V.cell? ⟨w.heap.size, 5, none⟩ = some (.int .i64 c.cap) ∧ V.cell? ⟨w.heap.size, 6, none⟩ = some (.int .i64 c.wait) ∧ V.cell? ⟨w.heap.size, 7, none⟩ = some (.int .i64 c.tries) ∧ V.cell? ⟨w.heap.size, 8, none⟩ = some (.int .i64 c.policy)) ∧ Below W.heap.size W V ∧ (b0 = true → ((W.heap.size ≤ gl0 ∧ gh0 ≤ V.heap.size) ∧ (∃ p lp F, t0 = .pointer (some ⟨p, 0, none⟩) ∧ RcAt V p lp (Lines.new c.sets c.ways) [] F ∧ ∀ j, F j → gl0 ≤ j ∧ j < gh0))) ∧ (b1 = true → ((W.heap.size ≤ gl1 ∧ gh1 ≤ V.heap.size) ∧ (∃ p, t1 = .pointer (some ⟨p, 0, none⟩) ∧ ob V p = some (.cells #[.slice none 0 0, .slice none 0 0] 147 (0, 0)) ∧ gl1 ≤ p ∧ p < gh1))) ∧ (b2 = true → ((W.heap.size ≤ gl2 ∧ gh2 ≤ V.heap.size) ∧ (∃ p, t2 = .pointer (some ⟨p, 0, none⟩) ∧ ob V p = some (.cells #[.int .i64 c.wait, .int .i64 c.tries, .int .i64 0, .int .i64 0, .bool false, .int .i64 0, .bool false, .int .i64 0, .int .i64 0, .bool false] 116 (0, 0)) ∧ gl2 ≤ p ∧ p < gh2))) ∧ (b0 = true → b1 = true → gh0 ≤ gl1 ∨ gh1 ≤ gl0) ∧ (b0 = true → b2 = true → gh0 ≤ gl2 ∨ gh2 ≤ gl0) ∧ (b1 = true → b2 = true → gh1 ≤ gl2 ∨ gh2 ≤ gl1)) ?step _ _ _ _ ?start
  case start =>
    refine ⟨false, false, false, Tz.getD 11 undef, Tz.getD 13 undef, Tz.getD 19 undef, 0, 0, 0, 0, 0, 0, rfl, ?_, ?_, hHeld, (Chg.below (Chg.drew (Chg.refl _ _))), (fun h => by cases h), (fun h => by cases h), (fun h => by cases h), (fun h => by cases h), (fun h => by cases h), (fun h => by cases h)⟩
    · subst hL0; rfl
    · simp only [set_same]
  case step =>
    rintro fz Lz az V ⟨b0, b1, b2, t0, t1, t2, gl0, gh0, gl1, gh1, gl2, gh2, rfl, rfl, rfl, hS, hB, h1, h2, h3, pr01, pr02, pr12⟩
    by_cases hall : b0 = true ∧ b1 = true ∧ b2 = true
    · left
      obtain ⟨rfl, rfl, rfl⟩ := hall
      replace h1 := h1 rfl
      replace h2 := h2 rfl
      replace h3 := h3 rfl
      replace pr01 := pr01 rfl rfl
      replace pr02 := pr02 rfl rfl
      replace pr12 := pr12 rfl rfl
      subst hT
      subst hL0
      simp only [List.setIfInBounds_toArray, List.set_cons_zero, List.set_cons_succ]
      obtain ⟨⟨g1, g2⟩, p1, lp1, F1, rfl, hC, hF⟩ := h1
      obtain ⟨⟨g3, g4⟩, p2, rfl, hT, ht1, ht2⟩ := h2
      obtain ⟨⟨g5, g6⟩, p3, rfl, hP, hp1, hp2⟩ := h3
      refine take_at 15 (some 20) (v := ?vt15) (by kernel_rfl) (by kernel_rfl) (by kernel_rfl) (by kernel_rfl) (fun _ _ _ _ h => h) (fun o ho => ?hyt15) hS ?restt15
      case hyt15 => (simp only [List.getElem?_toArray, List.getElem?_cons_succ, List.getElem?_cons_zero, Option.some.injEq] at ho; subst ho; refine Or.inl ⟨by rfl, ?_⟩; intro V hSw; (try dsimp only at hSw); go_simp <;> (try with_reducible rfl))
      (try simp only [Act.put, List.setIfInBounds_toArray, List.set_cons_zero, List.set_cons_succ])
      refine one_at 16 (by kernel_rfl) (by kernel_rfl) (fun o ho K hK => ?_)
      simp only [List.getElem?_toArray, List.getElem?_cons_succ, List.getElem?_cons_zero, Option.some.injEq] at ho
      subst ho
      go_simp
      refine hK.out _ _ (kept_9 (S := fun _ => False) (by repeat (first | with_reducible exact Chg.refl _ _ | with_reducible exact chg0 | with_reducible refine Chg.drewN ?_ _ | with_reducible refine Chg.drew ?_ | with_reducible refine Chg.alloc ?_ _ | with_reducible refine Chg.setCell ?_ _ _ (by first | (simp; done) | omega | (simp; omega)) | with_reducible refine Chg.setBlock ?_ _ _ (by first | (simp; done) | omega | (simp; omega)) | exact Chg.refl _ _)) (by simp) hS) (fun hHeld => ?_)
      clear hK K
      (try simp only [Act.put, List.setIfInBounds_toArray, List.set_cons_zero, List.set_cons_succ])
      refine one_at 17 (by kernel_rfl) (by kernel_rfl) (fun o ho K hK => ?_)
      simp only [List.getElem?_toArray, List.getElem?_cons_succ, List.getElem?_cons_zero, Option.some.injEq] at ho
      subst ho
      go_simp
      refine hK.out _ _ (hHeld) (fun hHeld => ?_)
      clear hK K
      (try simp only [Act.put, List.setIfInBounds_toArray, List.set_cons_zero, List.set_cons_succ])
      refine wpAnyH_done (by kernel_rfl) ?_ _
      go_wp2_with fail
      go_ret
      have sB := HBW.out.size
      have hcl := fun j (hj : F1 j) => hC.lt hj
      refine ⟨V.heap.size, p1, lp1, F1, p2, p3, rfl, ob_alloc_at _ _, hC.below (Chg.below (by repeat (first | with_reducible exact Chg.refl _ _ | with_reducible exact chg0 | with_reducible refine Chg.drewN ?_ _ | with_reducible refine Chg.drew ?_ | with_reducible refine Chg.alloc ?_ _ | with_reducible refine Chg.setCell ?_ _ _ (by first | (simp; done) | omega | (simp; omega)) | with_reducible refine Chg.setBlock ?_ _ _ (by first | (simp; done) | omega | (simp; omega)) | exact Chg.refl _ _))), ob_step (Chg.below (by repeat (first | with_reducible exact Chg.refl _ _ | with_reducible exact chg0 | with_reducible refine Chg.drewN ?_ _ | with_reducible refine Chg.drew ?_ | with_reducible refine Chg.alloc ?_ _ | with_reducible refine Chg.setCell ?_ _ _ (by first | (simp; done) | omega | (simp; omega)) | with_reducible refine Chg.setBlock ?_ _ _ (by first | (simp; done) | omega | (simp; omega)) | exact Chg.refl _ _))) hT, ob_step (Chg.below (by repeat (first | with_reducible exact Chg.refl _ _ | with_reducible exact chg0 | with_reducible refine Chg.drewN ?_ _ | with_reducible refine Chg.drew ?_ | with_reducible refine Chg.alloc ?_ _ | with_reducible refine Chg.setCell ?_ _ _ (by first | (simp; done) | omega | (simp; omega)) | with_reducible refine Chg.setBlock ?_ _ _ (by first | (simp; done) | omega | (simp; omega)) | exact Chg.refl _ _))) hP, ⟨fun hf => by have := hF _ hf; omega, fun hf => by have := hF _ hf; omega, by omega⟩, fun j hj => ⟨by have := hF j hj; omega, hcl j hj⟩, ⟨by omega, by omega, by omega, by omega⟩, below_trans HBW.out (below_trans hB (Chg.below (by repeat (first | with_reducible exact Chg.refl _ _ | with_reducible exact chg0 | with_reducible refine Chg.drewN ?_ _ | with_reducible refine Chg.drew ?_ | with_reducible refine Chg.alloc ?_ _ | with_reducible refine Chg.setCell ?_ _ _ (by first | (simp; done) | omega | (simp; omega)) | with_reducible refine Chg.setBlock ?_ _ _ (by first | (simp; done) | omega | (simp; omega)) | exact Chg.refl _ _))))⟩
    · right
      obtain ⟨f', hf'⟩ : ∃ f', 3 + ((cond b0 0 1) + (cond b1 0 1) + (cond b2 0 1)) = f' + 1 := by
        cases b0 <;> cases b1 <;> cases b2 <;> first | exact ⟨_, rfl⟩ | exact absurd ⟨rfl, rfl, rfl⟩ hall
      refine ⟨f', hf', ?_, fun i hi => ?_⟩
      · subst hL0
        cases b0 <;> cases b1 <;> cases b2 <;> first | exact absurd ⟨rfl, rfl, rfl⟩ hall | exact ne_nil_of (by kernel_rfl)
      · have hm := mem_all (p := fun i => (i == 6 && !b0) || (i == 8 && !b1) || (i == 14 && !b2)) (by subst hL0; cases b0 <;> cases b1 <;> cases b2 <;> first | exact absurd ⟨rfl, rfl, rfl⟩ hall | kernel_rfl) hi
        simp only [Bool.or_eq_true, Bool.and_eq_true, beq_iff_eq, Bool.not_eq_true'] at hm
        clear hi hall
        rcases hm with (⟨rfl, rfl⟩ | ⟨rfl, rfl⟩) | ⟨rfl, rfl⟩
        · refine run_at (by kernel_rfl) (fun o ho K hK => ?_)
          simp only [List.getElem?_toArray, List.getElem?_cons_succ, List.getElem?_cons_zero, Option.some.injEq] at ho
          subst ho
          subst hT
          simp only [List.setIfInBounds_toArray, List.set_cons_zero, List.set_cons_succ]
          go_simp
          go_at_call 76
          refine (RefCacheNew_calls c.sets c.ways _).mono ?_
          rintro e wA ⟨p, lp, F, rfl, hC, hF, hbI⟩
          have hstep := below_trans (Chg.below (w := V) (by repeat (first | with_reducible exact Chg.refl _ _ | with_reducible exact chg0 | with_reducible refine Chg.drewN ?_ _ | with_reducible refine Chg.drew ?_ | with_reducible refine Chg.alloc ?_ _ | with_reducible refine Chg.setCell ?_ _ _ (by first | (simp; done) | omega | (simp; omega)) | with_reducible refine Chg.setBlock ?_ _ _ (by first | (simp; done) | omega | (simp; omega)) | exact Chg.refl _ _))) hbI
          have hS' := kept_9 (S := fun _ => False) (Chg.of_below hstep) (by simp) hS
          go_wp2_with fail
          refine hK.out _ _ ⟨hS', ⟨true, b1, b2, _, t1, t2, V.heap.size, wA.heap.size, gl1, gh1, gl2, gh2, ?_, ?_, ?_, hS', below_trans hB hstep, fun _ => ⟨⟨hB.size, Nat.le_refl _⟩, ⟨p, lp, F, rfl, hC, fun j hj => ⟨Nat.le_trans (Chg.below (w := V) (by repeat (first | with_reducible exact Chg.refl _ _ | with_reducible exact chg0 | with_reducible refine Chg.drewN ?_ _ | with_reducible refine Chg.drew ?_ | with_reducible refine Chg.alloc ?_ _ | with_reducible refine Chg.setCell ?_ _ _ (by first | (simp; done) | omega | (simp; omega)) | with_reducible refine Chg.setBlock ?_ _ _ (by first | (simp; done) | omega | (simp; omega)) | exact Chg.refl _ _))).size (hF j hj), hC.lt hj⟩⟩⟩, fun hb => ⟨⟨(h2 hb).1.1, Nat.le_trans (h2 hb).1.2 hstep.size⟩, ptrAny.step (h2 hb).2 hstep⟩, fun hb => ⟨⟨(h3 hb).1.1, Nat.le_trans (h3 hb).1.2 hstep.size⟩, ptrAny.step (h3 hb).2 hstep⟩, fun _ hq => Or.inr (h2 hq).1.2, fun _ hq => Or.inr (h3 hq).1.2, pr12⟩⟩
          · simp only [cond] at hf' ⊢; omega
          · subst hL0; rfl
          · first | rfl | (simp only [Act.put, List.setIfInBounds_toArray, List.set_cons_zero, List.set_cons_succ])
        · refine run_at (by kernel_rfl) (fun o ho K hK => ?_)
          simp only [List.getElem?_toArray, List.getElem?_cons_succ, List.getElem?_cons_zero, Option.some.injEq] at ho
          subst ho
          subst hT
          simp only [List.setIfInBounds_toArray, List.set_cons_zero, List.set_cons_succ]
          go_simp
          have hstep : Below V.heap.size V (V.alloc (.cells #[.slice none 0 0, .slice none 0 0] 147)) := Chg.below (by repeat (first | with_reducible exact Chg.refl _ _ | with_reducible exact chg0 | with_reducible refine Chg.drewN ?_ _ | with_reducible refine Chg.drew ?_ | with_reducible refine Chg.alloc ?_ _ | with_reducible refine Chg.setCell ?_ _ _ (by first | (simp; done) | omega | (simp; omega)) | with_reducible refine Chg.setBlock ?_ _ _ (by first | (simp; done) | omega | (simp; omega)) | exact Chg.refl _ _))
          have hS' := kept_9 (S := fun _ => False) (Chg.of_below hstep) (by simp) hS
          refine hK.out _ _ ⟨hS', ⟨b0, true, b2, t0, _, t2, gl0, gh0, V.heap.size, (V.alloc (.cells #[.slice none 0 0, .slice none 0 0] 147)).heap.size, gl2, gh2, ?_, ?_, ?_, hS', below_trans hB hstep, fun hb => ⟨⟨(h1 hb).1.1, Nat.le_trans (h1 hb).1.2 hstep.size⟩, rcAny.step (h1 hb).2 hstep⟩, fun _ => ⟨⟨hB.size, Nat.le_refl _⟩, ⟨_, rfl, ob_alloc_at _ _, Nat.le_refl _, by simp⟩⟩, fun hb => ⟨⟨(h3 hb).1.1, Nat.le_trans (h3 hb).1.2 hstep.size⟩, ptrAny.step (h3 hb).2 hstep⟩, fun hi _ => Or.inl (h1 hi).1.2, pr02, fun _ hq => Or.inr (h3 hq).1.2⟩⟩
          · simp only [cond] at hf' ⊢; omega
          · subst hL0; rfl
          · first | rfl | (simp only [Act.put, List.setIfInBounds_toArray, List.set_cons_zero, List.set_cons_succ])
        · refine run_at (by kernel_rfl) (fun o ho K hK => ?_)
          simp only [List.getElem?_toArray, List.getElem?_cons_succ, List.getElem?_cons_zero, Option.some.injEq] at ho
          subst ho
          subst hT
          simp only [List.setIfInBounds_toArray, List.set_cons_zero, List.set_cons_succ]
          go_simp
          have hstep : Below V.heap.size V (V.alloc (.cells #[.int .i64 c.wait, .int .i64 c.tries, .int .i64 0, .int .i64 0, .bool false, .int .i64 0, .bool false, .int .i64 0, .int .i64 0, .bool false] 116)) := Chg.below (by repeat (first | with_reducible exact Chg.refl _ _ | with_reducible exact chg0 | with_reducible refine Chg.drewN ?_ _ | with_reducible refine Chg.drew ?_ | with_reducible refine Chg.alloc ?_ _ | with_reducible refine Chg.setCell ?_ _ _ (by first | (simp; done) | omega | (simp; omega)) | with_reducible refine Chg.setBlock ?_ _ _ (by first | (simp; done) | omega | (simp; omega)) | exact Chg.refl _ _))
          have hS' := kept_9 (S := fun _ => False) (Chg.of_below hstep) (by simp) hS
          refine hK.out _ _ ⟨hS', ⟨b0, b1, true, t0, t1, _, gl0, gh0, gl1, gh1, V.heap.size, (V.alloc (.cells #[.int .i64 c.wait, .int .i64 c.tries, .int .i64 0, .int .i64 0, .bool false, .int .i64 0, .bool false, .int .i64 0, .int .i64 0, .bool false] 116)).heap.size, ?_, ?_, ?_, hS', below_trans hB hstep, fun hb => ⟨⟨(h1 hb).1.1, Nat.le_trans (h1 hb).1.2 hstep.size⟩, rcAny.step (h1 hb).2 hstep⟩, fun hb => ⟨⟨(h2 hb).1.1, Nat.le_trans (h2 hb).1.2 hstep.size⟩, ptrAny.step (h2 hb).2 hstep⟩, fun _ => ⟨⟨hB.size, Nat.le_refl _⟩, ⟨_, rfl, ob_alloc_at _ _, Nat.le_refl _, by simp⟩⟩, pr01, fun hi _ => Or.inl (h1 hi).1.2, fun hi _ => Or.inl (h2 hi).1.2⟩⟩
          · simp only [cond] at hf' ⊢; omega
          · subst hL0; rfl
          · first | rfl | (simp only [Act.put, List.setIfInBounds_toArray, List.set_cons_zero, List.set_cons_succ])
end
end Go.Proofs.YtchlioikkhnidaaGreat

/-
  The statements on the node: what is made.
-/
namespace Go.Proofs.YtchlioikkhnidaaGreat
open Go.RowKit Go.Sort Go.ChangeShapes Go.WideShapes Go.ChangeAt
open Go.ChangeMaps (setBlock)
set_option linter.unusedVariables false
set_option linter.unusedSimpArgs false
section
variable {w w' w'' w0 : World} {a : NAddr} {q : Nat} {n n' : Node} {L L' : List Letter} {D D' : List Done} {F F' FC FC' : Nat → Prop} {v1 v2 : Value}
/-- The document's new node. -/
def RefNew15 (w0 w : World) (p : Nat) (c : Config) (id : Int) : Prop :=
  ∃ p1 lp1 F1 p2 p3, ob w p = some (.cells #[.int .i64 c.nodes, .int .i64 c.blocks, .int .i64 c.tokens, .int .i64 c.sets, .int .i64 c.ways, .int .i64 c.cap, .int .i64 c.wait, .int .i64 c.tries, .int .i64 c.policy, .int .i64 id, .pointer (some ⟨p1, 0, none⟩), .pointer (some ⟨p2, 0, none⟩), .pointer (some ⟨p3, 0, none⟩), .slice none 0 0, .slice none 0 0] 112 (0, 0)) ∧
    RcAt w p1 lp1 (Lines.new c.sets c.ways) [] F1 ∧ ob w p2 = some (.cells #[.slice none 0 0, .slice none 0 0] 147 (0, 0)) ∧ ob w p3 = some (.cells #[.int .i64 c.wait, .int .i64 c.tries, .int .i64 0, .int .i64 0, .bool false, .int .i64 0, .bool false, .int .i64 0, .int .i64 0, .bool false] 116 (0, 0)) ∧
    (¬ F1 p2 ∧ ¬ F1 p3 ∧ p2 ≠ p3) ∧ (∀ j, F1 j → w0.heap.size ≤ j ∧ j < p) ∧ (w0.heap.size ≤ p2 ∧ w0.heap.size ≤ p3 ∧ p2 < p ∧ p3 < p)
set_option maxHeartbeats 4000000 in
set_option maxRecDepth 20000 in
theorem made15_yes (c : Config) (id : Int) (A : Option Addr) (l cap : Nat) (w : World) (hc : c.Fine) (hid : 0 ≤ id ∧ id < c.nodes) (hl : l ≤ 200) :
    Calls Tryz.prog 11 #[c.val, .int .i64 id, .slice A l cap] w fun e w' => ∃ a FC m w1, e = .returned (.tuple #[.pointer (some ⟨a.p, 0, none⟩), .pointer (some ⟨m, 0, none⟩), .bool true]) ∧ Nd0 w w' a (Node.new c id) FC ∧ RefNew15 w1 w' m c id ∧ (∀ j, nFp a FC j → j < w1.heap.size) ∧ w1.heap.size ≤ m ∧ w.heap.size ≤ w1.heap.size := by
  have he : c.err = 0 := Config.err_zero.2 hc
  have HC := Lib.hid (fun V => RefConfig_calls c V)
  rw [he] at HC
  have hn : isNode c id = true := by simp [isNode, hid.1, hid.2]
  have HNd := Lib.hid (fun V => RefNode_calls c id V)
  rw [hn] at HNd
  have HY := Lib.hid (fun V => NodeNew_yes c id V hc hid)
  have HR := Lib.hid (fun V => RefNodeNew_calls c id V)
  have hl' : decide ((200 : Int) < (l : Int)) = false := by simp; omega
  simp only [Config.val, Config.cells] at HC HNd HY HR ⊢
  clear he hn hid hl hc
  go_enter Tryz.func11, Tryz.ntmps11
  go_wp2_with fail
  refine (HC.out _).mono ?_
  rintro e w1 ⟨rfl, hb1⟩
  have o1 := ob_step hb1 (ob_alloc_at w (Obj.cells #[Value.int IntKind.i64 c.nodes, Value.int IntKind.i64 c.blocks, Value.int IntKind.i64 c.tokens, Value.int IntKind.i64 c.sets, Value.int IntKind.i64 c.ways, Value.int IntKind.i64 c.cap, Value.int IntKind.i64 c.wait, Value.int IntKind.i64 c.tries, Value.int IntKind.i64 c.policy] 23))
  have B1 := Lib.hid (show Below w.heap.size w w1 from below_trans (Chg.below (by repeat (first | with_reducible exact Chg.refl _ _ | with_reducible exact chg0 | with_reducible refine Chg.drewN ?_ _ | with_reducible refine Chg.drew ?_ | with_reducible refine Chg.alloc ?_ _ | with_reducible refine Chg.setCell ?_ _ _ (by first | (simp; done) | omega | (simp; omega)) | with_reducible refine Chg.setBlock ?_ _ _ (by first | (simp; done) | omega | (simp; omega)) | exact Chg.refl _ _))) hb1)
  obtain ⟨c0, c1, c2, c3, c4, c5, c6, c7, c8, cf, cl⟩ := ob_cells9 o1
  have O1 := Lib.hid o1
  clear hb1 o1
  go_wp2_with fail
  refine (HNd.out _).mono ?_
  rintro e w2 ⟨rfl, hb2⟩
  have hb2' : Below w1.heap.size w1 w2 := below_trans (Chg.below (by repeat (first | with_reducible exact Chg.refl _ _ | with_reducible exact chg0 | with_reducible refine Chg.drewN ?_ _ | with_reducible refine Chg.drew ?_ | with_reducible refine Chg.alloc ?_ _ | with_reducible refine Chg.setCell ?_ _ _ (by first | (simp; done) | omega | (simp; omega)) | with_reducible refine Chg.setBlock ?_ _ _ (by first | (simp; done) | omega | (simp; omega)) | exact Chg.refl _ _))) hb2
  have o2 := ob_step hb2' O1.out
  have B2 := Lib.hid (below_trans B1.out hb2')
  clear c0 c1 c2 c3 c4 c5 c6 c7 c8 cf cl hb2 hb2'
  obtain ⟨c0, c1, c2, c3, c4, c5, c6, c7, c8, cf, cl⟩ := ob_cells9 o2
  have O2 := Lib.hid o2
  clear o2
  go_wp2_with fail
  refine (HY.out _).mono ?_
  rintro e w3 ⟨a, FC, rfl, hN, hlow, hb3⟩
  have hb3' : Below w2.heap.size w2 w3 := below_trans (Chg.below (by repeat (first | with_reducible exact Chg.refl _ _ | with_reducible exact chg0 | with_reducible refine Chg.drewN ?_ _ | with_reducible refine Chg.drew ?_ | with_reducible refine Chg.alloc ?_ _ | with_reducible refine Chg.setCell ?_ _ _ (by first | (simp; done) | omega | (simp; omega)) | with_reducible refine Chg.setBlock ?_ _ _ (by first | (simp; done) | omega | (simp; omega)) | exact Chg.refl _ _))) hb3
  have o3 := ob_step hb3' O2.out
  have B3 := Lib.hid (below_trans B2.out hb3')
  have HN := Lib.hid (show Nd0 w w3 a (Node.new c id) FC from ⟨hN, fun j hj => Nat.le_trans (below_trans B2.out (Chg.below (by repeat (first | with_reducible exact Chg.refl _ _ | with_reducible exact chg0 | with_reducible refine Chg.drewN ?_ _ | with_reducible refine Chg.drew ?_ | with_reducible refine Chg.alloc ?_ _ | with_reducible refine Chg.setCell ?_ _ _ (by first | (simp; done) | omega | (simp; omega)) | with_reducible refine Chg.setBlock ?_ _ _ (by first | (simp; done) | omega | (simp; omega)) | exact Chg.refl _ _)))).size (hlow j hj), below_trans B2.out hb3'⟩)
  clear c0 c1 c2 c3 c4 c5 c6 c7 c8 cf cl hb3 hb3' hN hlow
  obtain ⟨c0, c1, c2, c3, c4, c5, c6, c7, c8, cf, cl⟩ := ob_cells9 o3
  clear o3
  go_wp2_with fail
  refine (HR.out _).mono ?_
  rintro e w4 ⟨m, p1, lp1, F1, p2, p3, rfl, r1, r2, r3, r4, r5, r6, r7, hb4⟩
  have hb4' : Below w3.heap.size w3 w4 := below_trans (Chg.below (by repeat (first | with_reducible exact Chg.refl _ _ | with_reducible exact chg0 | with_reducible refine Chg.drewN ?_ _ | with_reducible refine Chg.drew ?_ | with_reducible refine Chg.alloc ?_ _ | with_reducible refine Chg.setCell ?_ _ _ (by first | (simp; done) | omega | (simp; omega)) | with_reducible refine Chg.setBlock ?_ _ _ (by first | (simp; done) | omega | (simp; omega)) | exact Chg.refl _ _))) hb4
  go_wp2_with fail
  go_ret3
  refine ⟨a, FC, m, w3, rfl, HN.out.same hb4', ⟨p1, lp1, F1, p2, p3, r1, r2, r3, r4, r5, fun j hj => ?_, ?_⟩, HN.out.here.lt, ?_, B3.out.size⟩
  · exact r6 j hj
  · exact r7
  · have := r7.1; omega
end
end Go.Proofs.YtchlioikkhnidaaGreat

/-
  The statements on the node: what is not made; what wakes them.
-/
namespace Go.Proofs.YtchlioikkhnidaaGreat
open Go.RowKit Go.Sort Go.ChangeShapes Go.WideShapes Go.ChangeAt
open Go.ChangeMaps (setBlock)
set_option linter.unusedVariables false
set_option linter.unusedSimpArgs false
section
variable {w w' w'' w0 : World} {a : NAddr} {q : Nat} {n n' : Node} {L L' : List Letter} {D D' : List Done} {F F' FC FC' : Nat → Prop} {v1 v2 : Value}
set_option maxHeartbeats 4000000 in
set_option maxRecDepth 20000 in
theorem made15_no (c : Config) (id : Int) (A : Option Addr) (l cap : Nat) (w : World) (h : ¬ (c.Fine ∧ (0 ≤ id ∧ id < c.nodes) ∧ l ≤ 200)) :
    Calls Tryz.prog 11 #[c.val, .int .i64 id, .slice A l cap] w (Pure w (.tuple #[.pointer none, .pointer none, .bool false])) := by
  have HE := Lib.hid (Config.err_zero (c := c))
  have HC := Lib.hid (fun V => RefConfig_calls c V)
  have HNd := Lib.hid (fun V => RefNode_calls c id V)
  obtain ⟨er, her⟩ : ∃ e, e = c.err := ⟨_, rfl⟩
  obtain ⟨nn, hnn⟩ : ∃ e, e = isNode c id := ⟨_, rfl⟩
  rw [← her] at HE HC
  rw [← hnn] at HNd
  have hn : nn = true → 0 ≤ id ∧ id < c.nodes := fun h => by rw [hnn] at h; simpa [isNode] using h
  have HH := Lib.hid h
  have HN := Lib.hid hn
  simp only [Config.val, Config.cells] at HC HNd ⊢
  clear her hnn h hn
  by_cases q0 : er = 0
  · have q0' : (er != 0) = false := by simpa using q0
    have Q0 := Lib.hid q0
    clear q0
    cases nn
    · go_enter Tryz.func11, Tryz.ntmps11
      go_wp2_with fail
      refine (HC.out _).mono ?_
      rintro e w1 ⟨rfl, hb1⟩
      have o1 := ob_step hb1 (ob_alloc_at w (Obj.cells #[Value.int IntKind.i64 c.nodes, Value.int IntKind.i64 c.blocks, Value.int IntKind.i64 c.tokens, Value.int IntKind.i64 c.sets, Value.int IntKind.i64 c.ways, Value.int IntKind.i64 c.cap, Value.int IntKind.i64 c.wait, Value.int IntKind.i64 c.tries, Value.int IntKind.i64 c.policy] 23))
      have B1 := Lib.hid (show Below w.heap.size w w1 from below_trans (Chg.below (by repeat (first | with_reducible exact Chg.refl _ _ | with_reducible exact chg0 | with_reducible refine Chg.drewN ?_ _ | with_reducible refine Chg.drew ?_ | with_reducible refine Chg.alloc ?_ _ | with_reducible refine Chg.setCell ?_ _ _ (by first | (simp; done) | omega | (simp; omega)) | with_reducible refine Chg.setBlock ?_ _ _ (by first | (simp; done) | omega | (simp; omega)) | exact Chg.refl _ _))) hb1)
      obtain ⟨c0, c1, c2, c3, c4, c5, c6, c7, c8, cf, cl⟩ := ob_cells9 o1
      clear hb1 o1
      go_wp2_with fail
      refine (HNd.out _).mono ?_
      rintro e w2 ⟨rfl, hb2⟩
      go_wp2_with fail
      go_ret3
      exact ⟨rfl, below_trans B1.out (below_trans (Chg.below (by repeat (first | with_reducible exact Chg.refl _ _ | with_reducible exact chg0 | with_reducible refine Chg.drewN ?_ _ | with_reducible refine Chg.drew ?_ | with_reducible refine Chg.alloc ?_ _ | with_reducible refine Chg.setCell ?_ _ _ (by first | (simp; done) | omega | (simp; omega)) | with_reducible refine Chg.setBlock ?_ _ _ (by first | (simp; done) | omega | (simp; omega)) | exact Chg.refl _ _))) hb2)⟩
    · have hl' : decide ((200 : Int) < (l : Int)) = true := by
        have := HH.out
        simp
        by_cases h2 : l ≤ 200
        · exact absurd ⟨HE.out.1 Q0.out, HN.out rfl, h2⟩ this
        · omega
      go_enter Tryz.func11, Tryz.ntmps11
      go_wp2_with fail
      refine (HC.out _).mono ?_
      rintro e w1 ⟨rfl, hb1⟩
      have o1 := ob_step hb1 (ob_alloc_at w (Obj.cells #[Value.int IntKind.i64 c.nodes, Value.int IntKind.i64 c.blocks, Value.int IntKind.i64 c.tokens, Value.int IntKind.i64 c.sets, Value.int IntKind.i64 c.ways, Value.int IntKind.i64 c.cap, Value.int IntKind.i64 c.wait, Value.int IntKind.i64 c.tries, Value.int IntKind.i64 c.policy] 23))
      have B1 := Lib.hid (show Below w.heap.size w w1 from below_trans (Chg.below (by repeat (first | with_reducible exact Chg.refl _ _ | with_reducible exact chg0 | with_reducible refine Chg.drewN ?_ _ | with_reducible refine Chg.drew ?_ | with_reducible refine Chg.alloc ?_ _ | with_reducible refine Chg.setCell ?_ _ _ (by first | (simp; done) | omega | (simp; omega)) | with_reducible refine Chg.setBlock ?_ _ _ (by first | (simp; done) | omega | (simp; omega)) | exact Chg.refl _ _))) hb1)
      obtain ⟨c0, c1, c2, c3, c4, c5, c6, c7, c8, cf, cl⟩ := ob_cells9 o1
      clear hb1 o1
      go_wp2_with fail
      refine (HNd.out _).mono ?_
      rintro e w2 ⟨rfl, hb2⟩
      go_wp2_with fail
      go_ret3
      exact ⟨rfl, below_trans B1.out (below_trans (Chg.below (by repeat (first | with_reducible exact Chg.refl _ _ | with_reducible exact chg0 | with_reducible refine Chg.drewN ?_ _ | with_reducible refine Chg.drew ?_ | with_reducible refine Chg.alloc ?_ _ | with_reducible refine Chg.setCell ?_ _ _ (by first | (simp; done) | omega | (simp; omega)) | with_reducible refine Chg.setBlock ?_ _ _ (by first | (simp; done) | omega | (simp; omega)) | exact Chg.refl _ _))) hb2)⟩
  · have q0' : (er != 0) = true := by simpa using q0
    clear q0
    go_enter Tryz.func11, Tryz.ntmps11
    go_wp2_with fail
    refine (HC.out _).mono ?_
    rintro e w1 ⟨rfl, hb1⟩
    go_wp2_with fail
    go_ret3
    exact ⟨rfl, below_trans (Chg.below (by repeat (first | with_reducible exact Chg.refl _ _ | with_reducible exact chg0 | with_reducible refine Chg.drewN ?_ _ | with_reducible refine Chg.drew ?_ | with_reducible refine Chg.alloc ?_ _ | with_reducible refine Chg.setCell ?_ _ _ (by first | (simp; done) | omega | (simp; omega)) | with_reducible refine Chg.setBlock ?_ _ _ (by first | (simp; done) | omega | (simp; omega)) | exact Chg.refl _ _))) hb1⟩

def awN0 : Node := Node.new small15 0
def awOp : Op := ⟨1, false, 0⟩
def awD : Draws := ⟨0, 0, 0⟩
def awL : Letter := ⟨1, 2, 0, 1, 0, 0, false, ⟨3, true, true, 7⟩⟩
def awN1 : Node := (awN0.issue awOp awD).1
def awN2 : Node := (awN1.take awL awD).1
theorem aw_1 : (awN0.issue awOp awD).2 = ([⟨2, 0, 1, 1, 0, 0, false, Bundle.none⟩, ⟨2, 0, 2, 1, 0, 0, false, Bundle.none⟩], [], true) := by kernel_rfl
theorem aw_2 : (awN1.take awL awD).2 = ([], [⟨0, 1, ⟨1, false, 0⟩, 7, 0⟩]) := by kernel_rfl
theorem aw_3 : awN2.cpu.busy = false ∧ awN2.cpu.op = Op.zero := ⟨by kernel_rfl, by kernel_rfl⟩
theorem aw_4 : awN2.cache.lines.all = [1] := by kernel_rfl
theorem aw_5 : awN2.cache.all.length = 1 := by rw [CacheM.all_len, list_len', aw_4]; rfl
theorem aw_6 : small15.Fine := Config.err_zero.1 (by decide)
end
end Go.Proofs.YtchlioikkhnidaaGreat

/-
  The statements on the node: what wakes them.
-/
namespace Go.Proofs.YtchlioikkhnidaaGreat
open Go.RowKit Go.Sort Go.ChangeShapes Go.WideShapes Go.ChangeAt
open Go.ChangeMaps (setBlock)
set_option linter.unusedVariables false
set_option linter.unusedSimpArgs false
section
variable {w w' w'' w0 : World} {a : NAddr} {q : Nat} {n n' : Node} {L L' : List Letter} {D D' : List Done} {F F' FC FC' : Nat → Prop} {v1 v2 : Value}
theorem CacheM.new_tok (x y b : Int) : ((CacheM.new x y).tok b).count = 0 := by kernel_rfl
theorem aw_7 (b : Int) : (awN1.cache.tok b).count = 0 := by kernel_rfl
/-- What is laid in as a list of structs reads as that list. -/
theorem laid_slice {w : World} {e sz b : Nat} {c : Array Value} {rows : List (List Value)} (hb : ob w b = some (.cells c e (0, 0))) (ok : RowsOk sz rows) (hc : c.toList = rows.flatten) (hm : rows.length ≤ 1000000) :
    SliceIs w sz (.slice (some ⟨b, 0, none⟩) rows.length rows.length) rows := (OwnSl.made hb ok hc hm).slice
set_option maxHeartbeats 8000000 in
set_option maxRecDepth 20000 in
theorem ndAwake_calls (w : World) : Calls Tryz.prog 12 #[] w (Pure w (.bool true)) := by
  have HSm := Lib.hid (fun V => small15_calls V)
  have HY := Lib.hid (fun V => NodeNew_yes small15 0 V aw_6 (by decide))
  have HNo := Lib.hid (fun V => NodeNew_id small15 2 V aw_6 (by decide))
  simp only [small15, Config.val, Config.cells] at HSm HY HNo
  go_enter Tryz.func12, Tryz.ntmps12
  go_wp2_with fail
  refine (HSm.out _).mono ?_
  rintro e w1 ⟨rfl, hb1⟩
  go_wp2_with fail
  refine (HY.out _).mono ?_
  rintro e w2 ⟨a, FC, rfl, hN, hlow, hb2⟩
  have hb2' : Below w1.heap.size w1 w2 := below_trans (Chg.below (by repeat (first | with_reducible exact Chg.refl _ _ | with_reducible exact chg0 | with_reducible refine Chg.drewN ?_ _ | with_reducible refine Chg.drew ?_ | with_reducible refine Chg.alloc ?_ _ | with_reducible refine Chg.setCell ?_ _ _ (by first | (simp; done) | omega | (simp; omega)) | with_reducible refine Chg.setBlock ?_ _ _ (by first | (simp; done) | omega | (simp; omega)) | exact Chg.refl _ _))) hb2
  have HN2 := Lib.hid (show Nd0 w w2 a awN0 FC from ⟨hN, fun j hj => Nat.le_trans (below_trans hb1 (Chg.below (by repeat (first | with_reducible exact Chg.refl _ _ | with_reducible exact chg0 | with_reducible refine Chg.drewN ?_ _ | with_reducible refine Chg.drew ?_ | with_reducible refine Chg.alloc ?_ _ | with_reducible refine Chg.setCell ?_ _ _ (by first | (simp; done) | omega | (simp; omega)) | with_reducible refine Chg.setBlock ?_ _ _ (by first | (simp; done) | omega | (simp; omega)) | exact Chg.refl _ _)))).size (hlow j hj), below_trans hb1 hb2'⟩)
  clear hb1 hb2 hb2' hN hlow HY
  go_wp2_with fail
  refine (HSm.out _).mono ?_
  rintro e w3 ⟨rfl, hb3⟩
  have HN3 := Lib.hid (HN2.out.same (below_trans (Chg.below (by repeat (first | with_reducible exact Chg.refl _ _ | with_reducible exact chg0 | with_reducible refine Chg.drewN ?_ _ | with_reducible refine Chg.drew ?_ | with_reducible refine Chg.alloc ?_ _ | with_reducible refine Chg.setCell ?_ _ _ (by first | (simp; done) | omega | (simp; omega)) | with_reducible refine Chg.setBlock ?_ _ _ (by first | (simp; done) | omega | (simp; omega)) | exact Chg.refl _ _))) hb3))
  clear hb3
  go_wp2_with fail
  refine (HNo.out _).mono ?_
  rintro e w4 ⟨rfl, hb4⟩
  have HN4 := Lib.hid (HN3.out.same (below_trans (Chg.below (by repeat (first | with_reducible exact Chg.refl _ _ | with_reducible exact chg0 | with_reducible refine Chg.drewN ?_ _ | with_reducible refine Chg.drew ?_ | with_reducible refine Chg.alloc ?_ _ | with_reducible refine Chg.setCell ?_ _ _ (by first | (simp; done) | omega | (simp; omega)) | with_reducible refine Chg.setBlock ?_ _ _ (by first | (simp; done) | omega | (simp; omega)) | exact Chg.refl _ _))) hb4))
  clear hb4 HNo HSm
  go_wp2_with fail
  have HI := Lib.hid (fun V (hV : NodeIn V a awN0 FC) => NodeIssue_calls awOp awD hV (by decide))
  rw [aw_1] at HI
  simp only [awOp, awD, Op.val, Op.cells, Draws.val, Draws.cells] at HI
  refine (HI.out _ (HN4.out.same (Chg.below (by repeat (first | with_reducible exact Chg.refl _ _ | with_reducible exact chg0 | with_reducible refine Chg.drewN ?_ _ | with_reducible refine Chg.drew ?_ | with_reducible refine Chg.alloc ?_ _ | with_reducible refine Chg.setCell ?_ _ _ (by first | (simp; done) | omega | (simp; omega)) | with_reducible refine Chg.setBlock ?_ _ _ (by first | (simp; done) | omega | (simp; omega)) | exact Chg.refl _ _)))).here).mono ?_
  rintro e w5 ⟨FC5, u1, u2, rfl, hs5⟩
  have hk5 := hs5.node.lt
  have HN5 := Lib.hid ((HN4.out.same (Chg.below (by repeat (first | with_reducible exact Chg.refl _ _ | with_reducible exact chg0 | with_reducible refine Chg.drewN ?_ _ | with_reducible refine Chg.drew ?_ | with_reducible refine Chg.alloc ?_ _ | with_reducible refine Chg.setCell ?_ _ _ (by first | (simp; done) | omega | (simp; omega)) | with_reducible refine Chg.setBlock ?_ _ _ (by first | (simp; done) | omega | (simp; omega)) | exact Chg.refl _ _)))).sent hs5)
  change Hid (Nd0 w w5 a awN1 FC5) at HN5
  have HO5 := Lib.hid ((HN4.out.same (Chg.below (by repeat (first | with_reducible exact Chg.refl _ _ | with_reducible exact chg0 | with_reducible refine Chg.drewN ?_ _ | with_reducible refine Chg.drew ?_ | with_reducible refine Chg.alloc ?_ _ | with_reducible refine Chg.setCell ?_ _ _ (by first | (simp; done) | omega | (simp; omega)) | with_reducible refine Chg.setBlock ?_ _ _ (by first | (simp; done) | omega | (simp; omega)) | exact Chg.refl _ _)))).outs hs5)
  have hap := Lib.hid (show ∀ j, u1.ownBlock = some j → ¬ nFp a FC5 j from fun j hj => (hs5.apart1 j hj).1)
  obtain ⟨A1, n1, s1, e1⟩ := hs5.letters.shape
  obtain ⟨A2, n2, s2, e2⟩ := hs5.done.shape
  subst e1
  subst e2
  clear hs5 hk5 HI
  have O5 := Lib.hid (ob_alloc_at w5 (Obj.cells #[Value.slice A1 n1 s1, Value.slice A2 n2 s2] 35))
  go_wp2_with fail
  have HT := Lib.hid (fun V (hV : NodeIn V a awN1 FC5) => NodeTake_calls awL awD hV (fun b => by rw [aw_7]; decide))
  rw [aw_2] at HT
  simp only [awL, awD, Letter.val, Letter.cells, Draws.val, Draws.cells] at HT
  refine (HT.out _ (HN5.out.same (Chg.below (by repeat (first | with_reducible exact Chg.refl _ _ | with_reducible exact chg0 | with_reducible refine Chg.drewN ?_ _ | with_reducible refine Chg.drew ?_ | with_reducible refine Chg.alloc ?_ _ | with_reducible refine Chg.setCell ?_ _ _ (by first | (simp; done) | omega | (simp; omega)) | with_reducible refine Chg.setBlock ?_ _ _ (by first | (simp; done) | omega | (simp; omega)) | exact Chg.refl _ _)))).here).mono ?_
  rintro e w6 ⟨FC6, u1, u2, rfl, hs6⟩
  have nW : ¬ nFp a FC5 w5.heap.size := fun hf => Nat.lt_irrefl _ (HN5.out.here.lt _ hf)
  have HN6 := Lib.hid ((HN5.out.same (Chg.below (by repeat (first | with_reducible exact Chg.refl _ _ | with_reducible exact chg0 | with_reducible refine Chg.drewN ?_ _ | with_reducible refine Chg.drew ?_ | with_reducible refine Chg.alloc ?_ _ | with_reducible refine Chg.setCell ?_ _ _ (by first | (simp; done) | omega | (simp; omega)) | with_reducible refine Chg.setBlock ?_ _ _ (by first | (simp; done) | omega | (simp; omega)) | exact Chg.refl _ _)))).sent hs6)
  change Hid (Nd0 w w6 a awN2 FC6) at HN6
  have HO6 := Lib.hid ((HN5.out.same (Chg.below (by repeat (first | with_reducible exact Chg.refl _ _ | with_reducible exact chg0 | with_reducible refine Chg.drewN ?_ _ | with_reducible refine Chg.drew ?_ | with_reducible refine Chg.alloc ?_ _ | with_reducible refine Chg.setCell ?_ _ _ (by first | (simp; done) | omega | (simp; omega)) | with_reducible refine Chg.setBlock ?_ _ _ (by first | (simp; done) | omega | (simp; omega)) | exact Chg.refl _ _)))).outs hs6)
  have HL6 := Lib.hid (show SliceIs w6 11 (.slice A1 n1 s1) ([⟨2, 0, 1, 1, 0, 0, false, Bundle.none⟩, ⟨2, 0, 2, 1, 0, 0, false, Bundle.none⟩].map Letter.cells) from ((HO5.out.1.1.chg (S := fun _ => False) (by repeat (first | with_reducible exact Chg.refl _ _ | with_reducible exact chg0 | with_reducible refine Chg.drewN ?_ _ | with_reducible refine Chg.drew ?_ | with_reducible refine Chg.alloc ?_ _ | with_reducible refine Chg.setCell ?_ _ _ (by first | (simp; done) | omega | (simp; omega)) | with_reducible refine Chg.setBlock ?_ _ _ (by first | (simp; done) | omega | (simp; omega)) | exact Chg.refl _ _)) (fun _ _ h => h)).chg hs6.moves.chg fun j hj => hap.out j hj).slice)
  have O6 := Lib.hid (hs6.moves.chg.ob O5.out nW)
  obtain ⟨A3, n3, s3, e1⟩ := hs6.letters.shape
  obtain ⟨A4, n4, s4, e2⟩ := hs6.done.shape
  subst e1
  subst e2
  have hz3 : n3 = 0 := by
    obtain ⟨_, _, e, _⟩ := hs6.letters.slice
    injection e
  subst hz3
  clear hs6 HT nW
  go_wp2_with fail
  have HP := Lib.hid (fun V (hV : NodeIn V a awN2 FC6) => NodePlace_calls hV)
  rw [aw_3.1, aw_3.2] at HP
  simp only [Op.zero] at HP
  refine (HP.out _ (HN6.out.same (Chg.below (by repeat (first | with_reducible exact Chg.refl _ _ | with_reducible exact chg0 | with_reducible refine Chg.drewN ?_ _ | with_reducible refine Chg.drew ?_ | with_reducible refine Chg.alloc ?_ _ | with_reducible refine Chg.setCell ?_ _ _ (by first | (simp; done) | omega | (simp; omega)) | with_reducible refine Chg.setBlock ?_ _ _ (by first | (simp; done) | omega | (simp; omega)) | exact Chg.refl _ _)))).here).mono ?_
  rintro e w7 ⟨u1, u2, rfl, hl7, ha7, hb7⟩
  have hb67 : Below w6.heap.size w6 w7 := below_trans (Chg.below (by repeat (first | with_reducible exact Chg.refl _ _ | with_reducible exact chg0 | with_reducible refine Chg.drewN ?_ _ | with_reducible refine Chg.drew ?_ | with_reducible refine Chg.alloc ?_ _ | with_reducible refine Chg.setCell ?_ _ _ (by first | (simp; done) | omega | (simp; omega)) | with_reducible refine Chg.setBlock ?_ _ _ (by first | (simp; done) | omega | (simp; omega)) | exact Chg.refl _ _))) hb7
  have e5 := ob_step hb67 O6.out
  have e6 := ob_step hb7 (ob_alloc_at w6 (Obj.cells #[Value.slice A3 0 s3, Value.slice A4 n4 s4] 35))
  have HL7 := Lib.hid (HL6.out.below hb67)
  have HD7 := Lib.hid (HO6.out.2.step hb67).1.slice
  have B7 := Lib.hid (below_trans HN6.out.below hb67)
  obtain ⟨A5, s5, e7⟩ := hl7.1.form
  rw [List.length_map, aw_5] at e7
  obtain ⟨A6, n6, s6, e8⟩ := ha7.1.shape
  subst e7
  subst e8
  clear hl7 ha7 hb7 hb67 HP
  have k50 : w7.cell? ⟨w5.heap.size, 0, none⟩ = some (.slice A1 n1 s1) := cell_ob e5 0
  have k60 : w7.cell? ⟨w6.heap.size, 0, none⟩ = some (.slice A3 0 s3) := cell_ob e6 0
  have k61 : w7.cell? ⟨w6.heap.size, 1, none⟩ = some (.slice A4 n4 s4) := cell_ob e6 1
  have l5 := ob_lt e5
  have l6 := ob_lt e6
  clear e5 e6
  go_wp2_with fail
  refine (letter_same [⟨2, 0, 1, 1, 0, 0, false, Bundle.none⟩, ⟨2, 0, 2, 1, 0, 0, false, Bundle.none⟩] _ _ _ (HL7.out.below (Chg.below (by repeat (first | with_reducible exact Chg.refl _ _ | with_reducible exact chg0 | with_reducible refine Chg.drewN ?_ _ | with_reducible refine Chg.drew ?_ | with_reducible refine Chg.alloc ?_ _ | with_reducible refine Chg.setCell ?_ _ _ (by first | (simp; done) | omega | (simp; omega)) | with_reducible refine Chg.setBlock ?_ _ _ (by first | (simp; done) | omega | (simp; omega)) | exact Chg.refl _ _)))) (laid_slice (e := 44) (rows := [⟨2, 0, 1, 1, 0, 0, false, Bundle.none⟩, ⟨2, 0, 2, 1, 0, 0, false, Bundle.none⟩].map Letter.cells) (ob_alloc_new _ _ _ (by simp)) (letters_ok _) rfl (by decide))).mono ?_
  rintro e w8 ⟨rfl, m8, rfl⟩
  go_wp2_with fail
  refine (done_same [⟨0, 1, ⟨1, false, 0⟩, 7, 0⟩] _ _ _ (HD7.out.below (Chg.below (by repeat (first | with_reducible exact Chg.refl _ _ | with_reducible exact chg0 | with_reducible refine Chg.drewN ?_ _ | with_reducible refine Chg.drew ?_ | with_reducible refine Chg.alloc ?_ _ | with_reducible refine Chg.setCell ?_ _ _ (by first | (simp; done) | omega | (simp; omega)) | with_reducible refine Chg.setBlock ?_ _ _ (by first | (simp; done) | omega | (simp; omega)) | exact Chg.refl _ _)))) (laid_slice (e := 60) (rows := [⟨0, 1, ⟨1, false, 0⟩, 7, 0⟩].map Done.cells) (by first | exact ob_alloc_new _ _ _ (by simp) | (rw [ob_drewN]; exact ob_alloc_new _ _ _ (by simp))) (dones_ok _) rfl (by decide))).mono ?_
  rintro e w9 ⟨rfl, m9, hw9⟩
  have hb9 : Below w7.heap.size w7 w9 := by rw [hw9]; exact Chg.below (by repeat (first | with_reducible exact Chg.refl _ _ | with_reducible exact chg0 | with_reducible refine Chg.drewN ?_ _ | with_reducible refine Chg.drew ?_ | with_reducible refine Chg.alloc ?_ _ | with_reducible refine Chg.setCell ?_ _ _ (by first | (simp; done) | omega | (simp; omega)) | with_reducible refine Chg.setBlock ?_ _ _ (by first | (simp; done) | omega | (simp; omega)) | exact Chg.refl _ _))
  have hp9 : ob w9 w7.heap.size = some (.cells #[Value.slice A5 1 s5, Value.bool false, Value.int IntKind.i64 0, Value.bool false, Value.int IntKind.i64 0, Value.slice A6 n6 s6] 50 (0, 0)) := by
    rw [hw9]
    exact Chg.ob (S := fun _ => False) (w := w7.alloc _) (by repeat (first | with_reducible exact Chg.refl _ _ | with_reducible exact chg0 | with_reducible refine Chg.drewN ?_ _ | with_reducible refine Chg.drew ?_ | with_reducible refine Chg.alloc ?_ _ | with_reducible refine Chg.setCell ?_ _ _ (by first | (simp; done) | omega | (simp; omega)) | with_reducible refine Chg.setBlock ?_ _ _ (by first | (simp; done) | omega | (simp; omega)) | exact Chg.refl _ _)) (ob_alloc_at _ _) (fun h => h)
  have g60 : w9.cell? ⟨w6.heap.size, 0, none⟩ = some (.slice A3 0 s3) := (Chg.of_below (S := fun _ => False) hb9).cell k60 (fun h => h)
  have g70 : w9.cell? ⟨w7.heap.size, 0, none⟩ = some (.slice A5 1 s5) := cell_ob hp9 0
  have g71 : w9.cell? ⟨w7.heap.size, 1, none⟩ = some (.bool false) := cell_ob hp9 1
  have gl6 := Nat.lt_of_lt_of_le l6 hb9.size
  have gl7 := ob_lt hp9
  have HB9 := Lib.hid (below_trans B7.out hb9)
  clear hw9 hb9 hp9 k50 k60 k61 l5 l6
  go_wp2_with fail
  go_ret
  exact ⟨by simp, below_trans HB9.out (Chg.below (by repeat (first | with_reducible exact Chg.refl _ _ | with_reducible exact chg0 | with_reducible refine Chg.drewN ?_ _ | with_reducible refine Chg.drew ?_ | with_reducible refine Chg.alloc ?_ _ | with_reducible refine Chg.setCell ?_ _ _ (by first | (simp; done) | omega | (simp; omega)) | with_reducible refine Chg.setBlock ?_ _ _ (by first | (simp; done) | omega | (simp; omega)) | exact Chg.refl _ _)))⟩
end
end Go.Proofs.YtchlioikkhnidaaGreat
