/-
  The program's node: a new one.
-/
import Derived.Test.YtchlioikkhnidaaGreatMN5
import Derived.Test.YtchlioikkhnidaaGreatMN2
import Derived.Test.YtchlioikkhnidaaGreatMF
import Derived.Test.YtchlioikkhnidaaGreatMA
set_option linter.unusedVariables false
set_option linter.unusedSimpArgs false
namespace Go.Proofs.YtchlioikkhnidaaGreat
open Go.RowKit Go.Sort Go.ChangeShapes Go.WideShapes Go.ChangeAt
open Go.ChangeMaps (setBlock)
set_option linter.unusedVariables false
set_option linter.unusedSimpArgs false
section
variable {w w' w'' : World} {a : NAddr} {q : Nat} {n n' : Node} {FC : Nat → Prop}
theorem cacheAny.step {t : Value} {c : CacheM} {lo hi : Nat} (h : ∃ p F, t = .pointer (some ⟨p, 0, none⟩) ∧ CacheAt w p c F ∧ ∀ j, F j → lo ≤ j ∧ j < hi) (hb : Below w.heap.size w w') : ∃ p F, t = .pointer (some ⟨p, 0, none⟩) ∧ CacheAt w' p c F ∧ ∀ j, F j → lo ≤ j ∧ j < hi := by
  obtain ⟨p, F, h1, h2, h3⟩ := h
  exact ⟨p, F, h1, h2.below hb, h3⟩
theorem tableAny.step {t : Value} {c : Table} {lo hi : Nat} (h : ∃ p ab xb, t = .pointer (some ⟨p, 0, none⟩) ∧ TableAt w p ab xb c ∧ (lo ≤ p ∧ lo ≤ ab ∧ lo ≤ xb) ∧ (p < hi ∧ ab < hi ∧ xb < hi)) (hb : Below w.heap.size w w') : ∃ p ab xb, t = .pointer (some ⟨p, 0, none⟩) ∧ TableAt w' p ab xb c ∧ (lo ≤ p ∧ lo ≤ ab ∧ lo ≤ xb) ∧ (p < hi ∧ ab < hi ∧ xb < hi) := by
  obtain ⟨p, ab, xb, h1, h2, h3⟩ := h
  exact ⟨p, ab, xb, h1, h2.below hb, h3⟩
theorem procAny.step {t : Value} {c : Proc} {lo hi : Nat} (h : ∃ p, t = .pointer (some ⟨p, 0, none⟩) ∧ ProcAt w p c ∧ lo ≤ p ∧ p < hi) (hb : Below w.heap.size w w') : ∃ p, t = .pointer (some ⟨p, 0, none⟩) ∧ ProcAt w' p c ∧ lo ≤ p ∧ p < hi := by
  obtain ⟨p, h1, h2, h3⟩ := h
  exact ⟨p, h1, h2.below hb, h3⟩
theorem mapAny.step {t : Value} {o : Obj} {lo hi : Nat} (h : ∃ p, t = .map (some p) ∧ ob w p = some o ∧ lo ≤ p ∧ p < hi) (hb : Below w.heap.size w w') : ∃ p, t = .map (some p) ∧ ob w' p = some o ∧ lo ≤ p ∧ p < hi := by
  obtain ⟨p, h1, h2, h3⟩ := h
  exact ⟨p, h1, ob_step hb h2, h3⟩

set_option maxHeartbeats 4000000 in
set_option maxRecDepth 20000 in
theorem NodeNew_id (c : Config) (id : Int) (w : World) (hc : c.Fine) (hid : id < 0 ∨ c.nodes ≤ id) :
    Calls Tryz.prog 29 #[c.val, .int .i64 id] w fun e w' => e = .returned (.tuple #[.pointer none, .int .i64 2]) ∧ Below w.heap.size w w' := by
  have he : c.err = 0 := Config.err_zero.2 hc
  have HC := Lib.hid (fun V => LConfig_calls c V)
  rw [he] at HC
  simp only [Config.val, Config.cells] at HC ⊢
  clear he hc
  by_cases q1 : id < 0
  · have q1' : decide (id < 0) = true := by simpa using q1
    clear q1 hid
    go_enter Tryz.func29, Tryz.ntmps29
    go_wp2_with fail
    refine (HC.out _).mono ?_
    rintro e w1 ⟨rfl, hb1⟩
    go_wp2_with fail
    go_ret2
    exact ⟨rfl, below_trans (Chg.below (by repeat (first | with_reducible exact Chg.refl _ _ | with_reducible exact chg0 | with_reducible refine Chg.drewN ?_ _ | with_reducible refine Chg.drew ?_ | with_reducible refine Chg.alloc ?_ _ | with_reducible refine Chg.setCell ?_ _ _ (by first | (simp; done) | omega | (simp; omega)) | with_reducible refine Chg.setBlock ?_ _ _ (by first | (simp; done) | omega | (simp; omega)) | exact Chg.refl _ _))) (below_trans hb1 (Chg.below (by repeat (first | with_reducible exact Chg.refl _ _ | with_reducible exact chg0 | with_reducible refine Chg.drewN ?_ _ | with_reducible refine Chg.drew ?_ | with_reducible refine Chg.alloc ?_ _ | with_reducible refine Chg.setCell ?_ _ _ (by first | (simp; done) | omega | (simp; omega)) | with_reducible refine Chg.setBlock ?_ _ _ (by first | (simp; done) | omega | (simp; omega)) | exact Chg.refl _ _))))⟩
  · have q1' : decide (id < 0) = false := by simpa using q1
    have q2' : decide (c.nodes ≤ id) = true := by simpa using hid.resolve_left q1
    clear q1 hid
    go_enter Tryz.func29, Tryz.ntmps29
    go_wp2_with fail
    refine (HC.out _).mono ?_
    rintro e w1 ⟨rfl, hb1⟩
    have oc := ob_step hb1 (ob_alloc_at w (Obj.cells #[Value.int IntKind.i64 c.nodes, Value.int IntKind.i64 c.blocks, Value.int IntKind.i64 c.tokens, Value.int IntKind.i64 c.sets, Value.int IntKind.i64 c.ways, Value.int IntKind.i64 c.cap, Value.int IntKind.i64 c.wait, Value.int IntKind.i64 c.tries, Value.int IntKind.i64 c.policy] 23))
    have d0 : w1.cell? ⟨w.heap.size, 0, none⟩ = some (.int .i64 c.nodes) := cell_ob oc 0
    have ld := ob_lt oc
    go_wp2_with fail
    go_ret2
    exact ⟨rfl, below_trans (Chg.below (by repeat (first | with_reducible exact Chg.refl _ _ | with_reducible exact chg0 | with_reducible refine Chg.drewN ?_ _ | with_reducible refine Chg.drew ?_ | with_reducible refine Chg.alloc ?_ _ | with_reducible refine Chg.setCell ?_ _ _ (by first | (simp; done) | omega | (simp; omega)) | with_reducible refine Chg.setBlock ?_ _ _ (by first | (simp; done) | omega | (simp; omega)) | exact Chg.refl _ _))) (below_trans hb1 (Chg.below (by repeat (first | with_reducible exact Chg.refl _ _ | with_reducible exact chg0 | with_reducible refine Chg.drewN ?_ _ | with_reducible refine Chg.drew ?_ | with_reducible refine Chg.alloc ?_ _ | with_reducible refine Chg.setCell ?_ _ _ (by first | (simp; done) | omega | (simp; omega)) | with_reducible refine Chg.setBlock ?_ _ _ (by first | (simp; done) | omega | (simp; omega)) | exact Chg.refl _ _))))⟩

set_option maxHeartbeats 8000000 in
set_option maxRecDepth 20000 in
theorem NodeNew_yes (c : Config) (id : Int) (w : World) (hc : c.Fine) (hid : 0 ≤ id ∧ id < c.nodes) :
    Calls Tryz.prog 29 #[c.val, .int .i64 id] w fun e w' => ∃ a FC, e = .returned (.tuple #[.pointer (some ⟨a.p, 0, none⟩), .int .i64 0]) ∧ NodeIn w' a (Node.new c id) FC ∧ (∀ j, nFp a FC j → w.heap.size ≤ j) ∧ Below w.heap.size w w' := by
  have he : c.err = 0 := Config.err_zero.2 hc
  have HC := Lib.hid (fun V => LConfig_calls c V)
  have HFi := Lib.hid hc
  have HId := Lib.hid hid
  rw [he] at HC
  simp only [Config.val, Config.cells] at HC ⊢
  have q1' : decide (id < 0) = false := by simpa using hid.1
  have q2' : decide (c.nodes ≤ id) = false := by simpa using hid.2
  clear he hc hid
  have hmm := @run_makeMap Tryz.prog
  go_enter Tryz.func29, Tryz.ntmps29
  go_wp2_with fail
  refine (HC.out _).mono ?_
  rintro e w1 ⟨rfl, hb1⟩
  have oc := ob_step hb1 (ob_alloc_at w (Obj.cells #[Value.int IntKind.i64 c.nodes, Value.int IntKind.i64 c.blocks, Value.int IntKind.i64 c.tokens, Value.int IntKind.i64 c.sets, Value.int IntKind.i64 c.ways, Value.int IntKind.i64 c.cap, Value.int IntKind.i64 c.wait, Value.int IntKind.i64 c.tries, Value.int IntKind.i64 c.policy] 23))
  have d0 : w1.cell? ⟨w.heap.size, 0, none⟩ = some (.int .i64 c.nodes) := cell_ob oc 0
  have ld := ob_lt oc
  go_upto_region 5 with fail
  have hS : w1.cell? ⟨w.heap.size, 0, none⟩ = some (.int .i64 c.nodes) ∧ w1.cell? ⟨w.heap.size, 1, none⟩ = some (.int .i64 c.blocks) ∧ w1.cell? ⟨w.heap.size, 2, none⟩ = some (.int .i64 c.tokens) ∧ w1.cell? ⟨w.heap.size, 3, none⟩ = some (.int .i64 c.sets) ∧ w1.cell? ⟨w.heap.size, 4, none⟩ = some (.int .i64 c.ways) ∧ w1.cell? ⟨w.heap.size, 5, none⟩ = some (.int .i64 c.cap) ∧ w1.cell? ⟨w.heap.size, 6, none⟩ = some (.int .i64 c.wait) ∧ w1.cell? ⟨w.heap.size, 7, none⟩ = some (.int .i64 c.tries) ∧ w1.cell? ⟨w.heap.size, 8, none⟩ = some (.int .i64 c.policy) := ⟨cell_ob oc 0, cell_ob oc 1, cell_ob oc 2, cell_ob oc 3, cell_ob oc 4, cell_ob oc 5, cell_ob oc 6, cell_ob oc 7, cell_ob oc 8⟩
  have HB1 := Lib.hid (show Below w.heap.size w w1 from below_trans (Chg.below (by repeat (first | with_reducible exact Chg.refl _ _ | with_reducible exact chg0 | with_reducible refine Chg.drewN ?_ _ | with_reducible refine Chg.drew ?_ | with_reducible refine Chg.alloc ?_ _ | with_reducible refine Chg.setCell ?_ _ _ (by first | (simp; done) | omega | (simp; omega)) | with_reducible refine Chg.setBlock ?_ _ _ (by first | (simp; done) | omega | (simp; omega)) | exact Chg.refl _ _))) hb1)
  clear oc d0 hb1 HC q1' q2'
  refine wp_region_held_drew (S := fun V => V.cell? ⟨w.heap.size, 0, none⟩ = some (.int .i64 c.nodes) ∧ V.cell? ⟨w.heap.size, 1, none⟩ = some (.int .i64 c.blocks) ∧ V.cell? ⟨w.heap.size, 2, none⟩ = some (.int .i64 c.tokens) ∧ V.cell? ⟨w.heap.size, 3, none⟩ = some (.int .i64 c.sets) ∧ V.cell? ⟨w.heap.size, 4, none⟩ = some (.int .i64 c.ways) ∧ V.cell? ⟨w.heap.size, 5, none⟩ = some (.int .i64 c.cap) ∧ V.cell? ⟨w.heap.size, 6, none⟩ = some (.int .i64 c.wait) ∧ V.cell? ⟨w.heap.size, 7, none⟩ = some (.int .i64 c.tries) ∧ V.cell? ⟨w.heap.size, 8, none⟩ = some (.int .i64 c.policy)) (by kernel_rfl) (by exact hS) (fun hHeld => ?_)
  refine take_at 0 (some 17) (v := ?v0) (by kernel_rfl) (by kernel_rfl) (by kernel_rfl) (by kernel_rfl) (fun _ _ _ _ h => h) (fun o ho => ?hy0) hHeld ?rest0
  case hy0 => (simp only [List.getElem?_toArray, List.getElem?_cons_succ, List.getElem?_cons_zero, Option.some.injEq] at ho; subst ho; refine Or.inl ⟨by rfl, ?_⟩; intro V hSw; (try dsimp only at hSw); go_simp <;> (try with_reducible rfl))
  (try simp only [Act.put, List.setIfInBounds_toArray, List.set_cons_zero, List.set_cons_succ])
  refine take_at 1 (some 18) (v := ?v1) (by kernel_rfl) (by kernel_rfl) (by kernel_rfl) (by kernel_rfl) (fun _ _ _ _ h => h) (fun o ho => ?hy1) hHeld ?rest1
  case hy1 => (simp only [List.getElem?_toArray, List.getElem?_cons_succ, List.getElem?_cons_zero, Option.some.injEq] at ho; subst ho; refine Or.inl ⟨by rfl, ?_⟩; intro V hSw; (try dsimp only at hSw); go_simp <;> (try with_reducible rfl))
  (try simp only [Act.put, List.setIfInBounds_toArray, List.set_cons_zero, List.set_cons_succ])
  refine take_at 2 (some 19) (v := ?v2) (by kernel_rfl) (by kernel_rfl) (by kernel_rfl) (by kernel_rfl) (fun _ _ _ _ h => h) (fun o ho => ?hy2) hHeld ?rest2
  case hy2 => (simp only [List.getElem?_toArray, List.getElem?_cons_succ, List.getElem?_cons_zero, Option.some.injEq] at ho; subst ho; refine Or.inl ⟨by rfl, ?_⟩; intro V hSw; (try dsimp only at hSw); go_simp <;> (try with_reducible rfl))
  (try simp only [Act.put, List.setIfInBounds_toArray, List.set_cons_zero, List.set_cons_succ])
  refine take_at 3 (some 20) (v := ?v3) (by kernel_rfl) (by kernel_rfl) (by kernel_rfl) (by kernel_rfl) (fun _ _ _ _ h => h) (fun o ho => ?hy3) hHeld ?rest3
  case hy3 => (simp only [List.getElem?_toArray, List.getElem?_cons_succ, List.getElem?_cons_zero, Option.some.injEq] at ho; subst ho; refine Or.inl ⟨by rfl, ?_⟩; intro V hSw; (try dsimp only at hSw); go_simp <;> (try with_reducible rfl))
  (try simp only [Act.put, List.setIfInBounds_toArray, List.set_cons_zero, List.set_cons_succ])
  refine take_at 4 (some 21) (v := ?v4) (by kernel_rfl) (by kernel_rfl) (by kernel_rfl) (by kernel_rfl) (fun _ _ _ _ h => h) (fun o ho => ?hy4) hHeld ?rest4
  case hy4 => (simp only [List.getElem?_toArray, List.getElem?_cons_succ, List.getElem?_cons_zero, Option.some.injEq] at ho; subst ho; refine Or.inl ⟨by rfl, ?_⟩; intro V hSw; (try dsimp only at hSw); go_simp <;> (try with_reducible rfl))
  (try simp only [Act.put, List.setIfInBounds_toArray, List.set_cons_zero, List.set_cons_succ])
  refine take_at 5 (some 22) (v := ?v5) (by kernel_rfl) (by kernel_rfl) (by kernel_rfl) (by kernel_rfl) (fun _ _ _ _ h => h) (fun o ho => ?hy5) hHeld ?rest5
  case hy5 => (simp only [List.getElem?_toArray, List.getElem?_cons_succ, List.getElem?_cons_zero, Option.some.injEq] at ho; subst ho; refine Or.inl ⟨by rfl, ?_⟩; intro V hSw; (try dsimp only at hSw); go_simp <;> (try with_reducible rfl))
  (try simp only [Act.put, List.setIfInBounds_toArray, List.set_cons_zero, List.set_cons_succ])
  refine take_at 8 (some 25) (v := ?v8) (by kernel_rfl) (by kernel_rfl) (by kernel_rfl) (by kernel_rfl) (fun _ _ _ _ h => h) (fun o ho => ?hy8) hHeld ?rest8
  case hy8 => (simp only [List.getElem?_toArray, List.getElem?_cons_succ, List.getElem?_cons_zero, Option.some.injEq] at ho; subst ho; refine Or.inl ⟨by rfl, ?_⟩; intro V hSw; (try dsimp only at hSw); go_simp <;> (try with_reducible rfl))
  (try simp only [Act.put, List.setIfInBounds_toArray, List.set_cons_zero, List.set_cons_succ])
  refine take_at 9 (some 26) (v := ?v9) (by kernel_rfl) (by kernel_rfl) (by kernel_rfl) (by kernel_rfl) (fun _ _ _ _ h => h) (fun o ho => ?hy9) hHeld ?rest9
  case hy9 => (simp only [List.getElem?_toArray, List.getElem?_cons_succ, List.getElem?_cons_zero, Option.some.injEq] at ho; subst ho; refine Or.inl ⟨by rfl, ?_⟩; intro V hSw; (try dsimp only at hSw); go_simp <;> (try with_reducible rfl))
  (try simp only [Act.put, List.setIfInBounds_toArray, List.set_cons_zero, List.set_cons_succ])
  refine take_at 10 (some 27) (v := ?v10) (by kernel_rfl) (by kernel_rfl) (by kernel_rfl) (by kernel_rfl) (fun _ _ _ _ h => h) (fun o ho => ?hy10) hHeld ?rest10
  case hy10 => (simp only [List.getElem?_toArray, List.getElem?_cons_succ, List.getElem?_cons_zero, Option.some.injEq] at ho; subst ho; refine Or.inl ⟨by rfl, ?_⟩; intro V hSw; (try dsimp only at hSw); go_simp <;> (try with_reducible rfl))
  (try simp only [Act.put, List.setIfInBounds_toArray, List.set_cons_zero, List.set_cons_succ])
  refine take_at 11 (some 28) (v := ?v11) (by kernel_rfl) (by kernel_rfl) (by kernel_rfl) (by kernel_rfl) (fun _ _ _ _ h => h) (fun o ho => ?hy11) hHeld ?rest11
  case hy11 => (simp only [List.getElem?_toArray, List.getElem?_cons_succ, List.getElem?_cons_zero, Option.some.injEq] at ho; subst ho; refine Or.inl ⟨by rfl, ?_⟩; intro V hSw; (try dsimp only at hSw); go_simp <;> (try with_reducible rfl))
  (try simp only [Act.put, List.setIfInBounds_toArray, List.set_cons_zero, List.set_cons_succ])
  refine inv_intro ?_
  intro Tz Lz0 hT hL0
  (try simp only at hT)
  refine wpAnyH_inv (J := fun fz Lz az V => ∃ (b0 : Bool) (b1 : Bool) (b2 : Bool) (b3 : Bool) (b4 : Bool) (t0 : Value) (t1 : Value) (t2 : Value) (t3 : Value) (t4 : Value) (gl0 gh0 gl1 gh1 gl2 gh2 gl3 gh3 gl4 gh4 : Nat), fz = 4 + ((cond b0 0 1) + (cond b1 0 1) + (cond b2 0 1) + (cond b3 0 1) + (cond b4 0 1)) ∧ Lz = (((((Lz0.setIfInBounds 6 b0).setIfInBounds 7 b1).setIfInBounds 12 b2).setIfInBounds 13 b3).setIfInBounds 14 b4) ∧ az = ⟨(((((Tz.setIfInBounds 23 t0).setIfInBounds 24 t1).setIfInBounds 29 t2).setIfInBounds 30 t3).setIfInBounds 31 t4), []⟩ ∧ (V.cell? ⟨w.heap.size, 0, none⟩ = some (.int .i64 c.nodes) ∧ V.cell? ⟨w.heap.size, 1, none⟩ = some (.int .i64 c.blocks) ∧ V.cell? ⟨w.heap.size, 2, none⟩ = some (.int .i64 c.tokens) ∧ V.cell? ⟨w.heap.size, 3, none⟩ = some (.int .i64 c.sets) ∧ V.cell? ⟨w.heap.size, 4, none⟩ = some (.int .i64 c.ways) ∧ V.cell? ⟨w.heap.size, 5, none⟩ = some (.int .i64 c.cap) ∧ V.cell? ⟨w.heap.size, 6, none⟩ = some (.int .i64 c.wait) ∧ V.cell? ⟨w.heap.size, 7, none⟩ = some (.int .i64 c.tries) ∧ V.cell? ⟨w.heap.size, 8, none⟩ = some (.int .i64 c.policy)) ∧ Below w1.heap.size w1 V ∧ (b0 = true → ((w1.heap.size ≤ gl0 ∧ gh0 ≤ V.heap.size) ∧ (∃ p F, t0 = .pointer (some ⟨p, 0, none⟩) ∧ CacheAt V p (CacheM.new c.sets c.ways) F ∧ ∀ j, F j → gl0 ≤ j ∧ j < gh0))) ∧ (b1 = true → ((w1.heap.size ≤ gl1 ∧ gh1 ≤ V.heap.size) ∧ (∃ p ab xb, t1 = .pointer (some ⟨p, 0, none⟩) ∧ TableAt V p ab xb Table.new ∧ (gl1 ≤ p ∧ gl1 ≤ ab ∧ gl1 ≤ xb) ∧ (p < gh1 ∧ ab < gh1 ∧ xb < gh1)))) ∧ (b2 = true → ((w1.heap.size ≤ gl2 ∧ gh2 ≤ V.heap.size) ∧ (∃ p, t2 = .pointer (some ⟨p, 0, none⟩) ∧ ProcAt V p (Proc.new c.wait c.tries) ∧ gl2 ≤ p ∧ p < gh2))) ∧ (b3 = true → ((w1.heap.size ≤ gl3 ∧ gh3 ≤ V.heap.size) ∧ (∃ p, t3 = .map (some p) ∧ ob V p = some (.map #[] 0) ∧ gl3 ≤ p ∧ p < gh3))) ∧ (b4 = true → ((w1.heap.size ≤ gl4 ∧ gh4 ≤ V.heap.size) ∧ (∃ p, t4 = .map (some p) ∧ ob V p = some (.map #[] 0) ∧ gl4 ≤ p ∧ p < gh4))) ∧ (b0 = true → b1 = true → gh0 ≤ gl1 ∨ gh1 ≤ gl0) ∧ (b0 = true → b2 = true → gh0 ≤ gl2 ∨ gh2 ≤ gl0) ∧ (b0 = true → b3 = true → gh0 ≤ gl3 ∨ gh3 ≤ gl0) ∧ (b0 = true → b4 = true → gh0 ≤ gl4 ∨ gh4 ≤ gl0) ∧ (b1 = true → b2 = true → gh1 ≤ gl2 ∨ gh2 ≤ gl1) ∧ (b1 = true → b3 = true → gh1 ≤ gl3 ∨ gh3 ≤ gl1) ∧ (b1 = true → b4 = true → gh1 ≤ gl4 ∨ gh4 ≤ gl1) ∧ (b2 = true → b3 = true → gh2 ≤ gl3 ∨ gh3 ≤ gl2) ∧ (b2 = true → b4 = true → gh2 ≤ gl4 ∨ gh4 ≤ gl2) ∧ (b3 = true → b4 = true → gh3 ≤ gl4 ∨ gh4 ≤ gl3)) ?step _ _ _ _ ?start
  case start =>
    refine ⟨false, false, false, false, false, Tz.getD 23 undef, Tz.getD 24 undef, Tz.getD 29 undef, Tz.getD 30 undef, Tz.getD 31 undef, 0, 0, 0, 0, 0, 0, 0, 0, 0, 0, rfl, ?_, ?_, hHeld, (Chg.below (Chg.drew (Chg.refl _ _))), (fun h => by cases h), (fun h => by cases h), (fun h => by cases h), (fun h => by cases h), (fun h => by cases h), (fun h => by cases h), (fun h => by cases h), (fun h => by cases h), (fun h => by cases h), (fun h => by cases h), (fun h => by cases h), (fun h => by cases h), (fun h => by cases h), (fun h => by cases h), (fun h => by cases h)⟩
    · subst hL0; rfl
    · simp only [set_same]
  case step =>
    rintro fz Lz az V ⟨b0, b1, b2, b3, b4, t0, t1, t2, t3, t4, gl0, gh0, gl1, gh1, gl2, gh2, gl3, gh3, gl4, gh4, rfl, rfl, rfl, hS, hB, h1, h2, h3, h4, h5, pr01, pr02, pr03, pr04, pr12, pr13, pr14, pr23, pr24, pr34⟩
    by_cases hall : b0 = true ∧ b1 = true ∧ b2 = true ∧ b3 = true ∧ b4 = true
    · left
      obtain ⟨rfl, rfl, rfl, rfl, rfl⟩ := hall
      replace h1 := h1 rfl
      replace h2 := h2 rfl
      replace h3 := h3 rfl
      replace h4 := h4 rfl
      replace h5 := h5 rfl
      replace pr01 := pr01 rfl rfl
      replace pr02 := pr02 rfl rfl
      replace pr03 := pr03 rfl rfl
      replace pr04 := pr04 rfl rfl
      replace pr12 := pr12 rfl rfl
      replace pr13 := pr13 rfl rfl
      replace pr14 := pr14 rfl rfl
      replace pr23 := pr23 rfl rfl
      replace pr24 := pr24 rfl rfl
      replace pr34 := pr34 rfl rfl
      subst hT
      subst hL0
      simp only [List.setIfInBounds_toArray, List.set_cons_zero, List.set_cons_succ]
      obtain ⟨⟨g1, g2⟩, p1, F1, rfl, hC, hF⟩ := h1
      obtain ⟨⟨g3, g4⟩, p2, ab, xb, rfl, hT, ht1, ht2⟩ := h2
      obtain ⟨⟨g5, g6⟩, p3, rfl, hP, hp1, hp2⟩ := h3
      obtain ⟨⟨g7, g8⟩, m1, rfl, hm1, hm3, hm5⟩ := h4
      obtain ⟨⟨g9, g10⟩, m2, rfl, hm2, hm4, hm6⟩ := h5
      refine take_at 15 (some 32) (v := ?vt15) (by kernel_rfl) (by kernel_rfl) (by kernel_rfl) (by kernel_rfl) (fun _ _ _ _ h => h) (fun o ho => ?hyt15) hS ?restt15
      case hyt15 => (simp only [List.getElem?_toArray, List.getElem?_cons_succ, List.getElem?_cons_zero, Option.some.injEq] at ho; subst ho; refine Or.inl ⟨by rfl, ?_⟩; intro V hSw; (try dsimp only at hSw); go_simp <;> (try with_reducible rfl))
      (try simp only [Act.put, List.setIfInBounds_toArray, List.set_cons_zero, List.set_cons_succ])
      refine one_at 16 (by kernel_rfl) (by kernel_rfl) (fun o ho K hK => ?_)
      simp only [List.getElem?_toArray, List.getElem?_cons_succ, List.getElem?_cons_zero, Option.some.injEq] at ho
      subst ho
      go_simp
      refine hK.out _ _ (kept_9 (S := fun _ => False) (by repeat (first | with_reducible exact Chg.refl _ _ | with_reducible exact chg0 | with_reducible refine Chg.drewN ?_ _ | with_reducible refine Chg.drew ?_ | with_reducible refine Chg.alloc ?_ _ | with_reducible refine Chg.setCell ?_ _ _ (by first | (simp; done) | omega | (simp; omega)) | with_reducible refine Chg.setBlock ?_ _ _ (by first | (simp; done) | omega | (simp; omega)) | exact Chg.refl _ _)) (by simp) hS) (fun hHeld => ?_)
      clear hK K
      (try simp only [Act.put, List.setIfInBounds_toArray, List.set_cons_zero, List.set_cons_succ])
      refine one_at 17 (by kernel_rfl) (by kernel_rfl) (fun o ho K hK => ?_)
      simp only [List.getElem?_toArray, List.getElem?_cons_succ, List.getElem?_cons_zero, Option.some.injEq] at ho
      subst ho
      go_simp
      refine hK.out _ _ (hHeld) (fun hHeld => ?_)
      clear hK K
      (try simp only [Act.put, List.setIfInBounds_toArray, List.set_cons_zero, List.set_cons_succ])
      refine one_at 18 (by kernel_rfl) (by kernel_rfl) (fun o ho K hK => ?_)
      simp only [List.getElem?_toArray, List.getElem?_cons_succ, List.getElem?_cons_zero, Option.some.injEq] at ho
      subst ho
      go_simp
      refine hK.out _ _ (hHeld) (fun hHeld => ?_)
      clear hK K
      (try simp only [Act.put, List.setIfInBounds_toArray, List.set_cons_zero, List.set_cons_succ])
      refine wpAnyH_done (by kernel_rfl) ?_ _
      go_wp2_with fail
      go_ret2
      have sB := HB1.out.size
      have hcl := fun j (hj : F1 j) => hC.lt hj
      have s0 := HId.out
      have hTn := hT.ne
      have hTp := hT.ne1
      have hu : ∀ j, (j = p2 ∨ j = ab ∨ j = xb ∨ j = p3 ∨ j = m1 ∨ j = m2) → w.heap.size ≤ j ∧ j < V.heap.size := fun j hj => by rcases hj with rfl | rfl | rfl | rfl | rfl | rfl <;> omega
      refine ⟨⟨V.heap.size, p1, p2, ab, xb, p3, m1, m2⟩, F1, rfl, ⟨ob_alloc_at _ _, hC.below (Chg.below (by repeat (first | with_reducible exact Chg.refl _ _ | with_reducible exact chg0 | with_reducible refine Chg.drewN ?_ _ | with_reducible refine Chg.drew ?_ | with_reducible refine Chg.alloc ?_ _ | with_reducible refine Chg.setCell ?_ _ _ (by first | (simp; done) | omega | (simp; omega)) | with_reducible refine Chg.setBlock ?_ _ _ (by first | (simp; done) | omega | (simp; omega)) | exact Chg.refl _ _))), hT.below (Chg.below (by repeat (first | with_reducible exact Chg.refl _ _ | with_reducible exact chg0 | with_reducible refine Chg.drewN ?_ _ | with_reducible refine Chg.drew ?_ | with_reducible refine Chg.alloc ?_ _ | with_reducible refine Chg.setCell ?_ _ _ (by first | (simp; done) | omega | (simp; omega)) | with_reducible refine Chg.setBlock ?_ _ _ (by first | (simp; done) | omega | (simp; omega)) | exact Chg.refl _ _))), hP.below (Chg.below (by repeat (first | with_reducible exact Chg.refl _ _ | with_reducible exact chg0 | with_reducible refine Chg.drewN ?_ _ | with_reducible refine Chg.drew ?_ | with_reducible refine Chg.alloc ?_ _ | with_reducible refine Chg.setCell ?_ _ _ (by first | (simp; done) | omega | (simp; omega)) | with_reducible refine Chg.setBlock ?_ _ _ (by first | (simp; done) | omega | (simp; omega)) | exact Chg.refl _ _))), ⟨_, fun _ => none, ob_step (Chg.below (by repeat (first | with_reducible exact Chg.refl _ _ | with_reducible exact chg0 | with_reducible refine Chg.drewN ?_ _ | with_reducible refine Chg.drew ?_ | with_reducible refine Chg.alloc ?_ _ | with_reducible refine Chg.setCell ?_ _ _ (by first | (simp; done) | omega | (simp; omega)) | with_reducible refine Chg.setBlock ?_ _ _ (by first | (simp; done) | omega | (simp; omega)) | exact Chg.refl _ _))) hm1, MapObj.empty 0, BoolMap.empty⟩, ⟨_, fun _ => none, ob_step (Chg.below (by repeat (first | with_reducible exact Chg.refl _ _ | with_reducible exact chg0 | with_reducible refine Chg.drewN ?_ _ | with_reducible refine Chg.drew ?_ | with_reducible refine Chg.alloc ?_ _ | with_reducible refine Chg.setCell ?_ _ _ (by first | (simp; done) | omega | (simp; omega)) | with_reducible refine Chg.setBlock ?_ _ _ (by first | (simp; done) | omega | (simp; omega)) | exact Chg.refl _ _))) hm2, MapObj.empty 0, IntMap.empty⟩, ?_, ?_, ⟨HFi.out, HId.out, rfl, rfl, (fun h => by cases h)⟩⟩, ?_, below_trans HB1.out (below_trans hB (Chg.below (by repeat (first | with_reducible exact Chg.refl _ _ | with_reducible exact chg0 | with_reducible refine Chg.drewN ?_ _ | with_reducible refine Chg.drew ?_ | with_reducible refine Chg.alloc ?_ _ | with_reducible refine Chg.setCell ?_ _ _ (by first | (simp; done) | omega | (simp; omega)) | with_reducible refine Chg.setBlock ?_ _ _ (by first | (simp; done) | omega | (simp; omega)) | exact Chg.refl _ _))))⟩
      · simp only [NAddr.list, List.nodup_cons, List.mem_cons, List.not_mem_nil, or_false, not_or]
        refine ⟨⟨?_, ?_, ?_, ?_, ?_, ?_⟩, ⟨?_, ?_, ?_, ?_, ?_⟩, ⟨?_, ?_, ?_, ?_⟩, ⟨?_, ?_, ?_⟩, ⟨?_, ?_⟩, ?_, ?_⟩
        all_goals first | omega | simp
      · intro j hj hf
        have h1 := hF j hf
        have h2 := hcl j hf
        simp only [NAddr.list, List.mem_cons, List.not_mem_nil, or_false] at hj
        omega
      · rintro j (hj | hj)
        · simp only [NAddr.list, List.mem_cons, List.not_mem_nil, or_false] at hj
          have := hu j
          have := hB.size
          omega
        · have := hF j hj; omega
    · right
      obtain ⟨f', hf'⟩ : ∃ f', 4 + ((cond b0 0 1) + (cond b1 0 1) + (cond b2 0 1) + (cond b3 0 1) + (cond b4 0 1)) = f' + 1 := by
        cases b0 <;> cases b1 <;> cases b2 <;> cases b3 <;> cases b4 <;> first | exact ⟨_, rfl⟩ | exact absurd ⟨rfl, rfl, rfl, rfl, rfl⟩ hall
      refine ⟨f', hf', ?_, fun i hi => ?_⟩
      · subst hL0
        cases b0 <;> cases b1 <;> cases b2 <;> cases b3 <;> cases b4 <;> first | exact absurd ⟨rfl, rfl, rfl, rfl, rfl⟩ hall | exact ne_nil_of (by kernel_rfl)
      · have hm := mem_all (p := fun i => (i == 6 && !b0) || (i == 7 && !b1) || (i == 12 && !b2) || (i == 13 && !b3) || (i == 14 && !b4)) (by subst hL0; cases b0 <;> cases b1 <;> cases b2 <;> cases b3 <;> cases b4 <;> first | exact absurd ⟨rfl, rfl, rfl, rfl, rfl⟩ hall | kernel_rfl) hi
        simp only [Bool.or_eq_true, Bool.and_eq_true, beq_iff_eq, Bool.not_eq_true'] at hm
        clear hi hall
        rcases hm with (((⟨rfl, rfl⟩ | ⟨rfl, rfl⟩) | ⟨rfl, rfl⟩) | ⟨rfl, rfl⟩) | ⟨rfl, rfl⟩
        · refine run_at (by kernel_rfl) (fun o ho K hK => ?_)
          simp only [List.getElem?_toArray, List.getElem?_cons_succ, List.getElem?_cons_zero, Option.some.injEq] at ho
          subst ho
          subst hT
          simp only [List.setIfInBounds_toArray, List.set_cons_zero, List.set_cons_succ]
          go_simp
          go_at_call 73
          refine (CacheNew_calls c.sets c.ways _).mono ?_
          rintro e wA ⟨p, F, rfl, hC, hF, hbI⟩
          have hstep := below_trans (Chg.below (w := V) (by repeat (first | with_reducible exact Chg.refl _ _ | with_reducible exact chg0 | with_reducible refine Chg.drewN ?_ _ | with_reducible refine Chg.drew ?_ | with_reducible refine Chg.alloc ?_ _ | with_reducible refine Chg.setCell ?_ _ _ (by first | (simp; done) | omega | (simp; omega)) | with_reducible refine Chg.setBlock ?_ _ _ (by first | (simp; done) | omega | (simp; omega)) | exact Chg.refl _ _))) hbI
          have hS' := kept_9 (S := fun _ => False) (Chg.of_below hstep) (by simp) hS
          go_wp2_with fail
          refine hK.out _ _ ⟨hS', ⟨true, b1, b2, b3, b4, _, t1, t2, t3, t4, V.heap.size, wA.heap.size, gl1, gh1, gl2, gh2, gl3, gh3, gl4, gh4, ?_, ?_, ?_, hS', below_trans hB hstep, fun _ => ⟨⟨hB.size, Nat.le_refl _⟩, ⟨p, F, rfl, hC, fun j hj => ⟨Nat.le_trans (Chg.below (w := V) (by repeat (first | with_reducible exact Chg.refl _ _ | with_reducible exact chg0 | with_reducible refine Chg.drewN ?_ _ | with_reducible refine Chg.drew ?_ | with_reducible refine Chg.alloc ?_ _ | with_reducible refine Chg.setCell ?_ _ _ (by first | (simp; done) | omega | (simp; omega)) | with_reducible refine Chg.setBlock ?_ _ _ (by first | (simp; done) | omega | (simp; omega)) | exact Chg.refl _ _))).size (hF j hj), hC.lt hj⟩⟩⟩, fun hb => ⟨⟨(h2 hb).1.1, Nat.le_trans (h2 hb).1.2 hstep.size⟩, tableAny.step (h2 hb).2 hstep⟩, fun hb => ⟨⟨(h3 hb).1.1, Nat.le_trans (h3 hb).1.2 hstep.size⟩, procAny.step (h3 hb).2 hstep⟩, fun hb => ⟨⟨(h4 hb).1.1, Nat.le_trans (h4 hb).1.2 hstep.size⟩, mapAny.step (h4 hb).2 hstep⟩, fun hb => ⟨⟨(h5 hb).1.1, Nat.le_trans (h5 hb).1.2 hstep.size⟩, mapAny.step (h5 hb).2 hstep⟩, fun _ hq => Or.inr (h2 hq).1.2, fun _ hq => Or.inr (h3 hq).1.2, fun _ hq => Or.inr (h4 hq).1.2, fun _ hq => Or.inr (h5 hq).1.2, pr12, pr13, pr14, pr23, pr24, pr34⟩⟩
          · simp only [cond] at hf' ⊢; omega
          · subst hL0; rfl
          · first | rfl | (simp only [Act.put, List.setIfInBounds_toArray, List.set_cons_zero, List.set_cons_succ])
        · refine run_at (by kernel_rfl) (fun o ho K hK => ?_)
          simp only [List.getElem?_toArray, List.getElem?_cons_succ, List.getElem?_cons_zero, Option.some.injEq] at ho
          subst ho
          subst hT
          simp only [List.setIfInBounds_toArray, List.set_cons_zero, List.set_cons_succ]
          go_simp
          go_at_call 74
          refine (TableNew_calls _).mono ?_
          rintro e wA ⟨p, ab, xb, rfl, hC, hF, hbI⟩
          have hstep := below_trans (Chg.below (w := V) (by repeat (first | with_reducible exact Chg.refl _ _ | with_reducible exact chg0 | with_reducible refine Chg.drewN ?_ _ | with_reducible refine Chg.drew ?_ | with_reducible refine Chg.alloc ?_ _ | with_reducible refine Chg.setCell ?_ _ _ (by first | (simp; done) | omega | (simp; omega)) | with_reducible refine Chg.setBlock ?_ _ _ (by first | (simp; done) | omega | (simp; omega)) | exact Chg.refl _ _))) hbI
          have hS' := kept_9 (S := fun _ => False) (Chg.of_below hstep) (by simp) hS
          go_wp2_with fail
          refine hK.out _ _ ⟨hS', ⟨b0, true, b2, b3, b4, t0, _, t2, t3, t4, gl0, gh0, V.heap.size, wA.heap.size, gl2, gh2, gl3, gh3, gl4, gh4, ?_, ?_, ?_, hS', below_trans hB hstep, fun hb => ⟨⟨(h1 hb).1.1, Nat.le_trans (h1 hb).1.2 hstep.size⟩, cacheAny.step (h1 hb).2 hstep⟩, fun _ => ⟨⟨hB.size, Nat.le_refl _⟩, ⟨p, ab, xb, rfl, hC, hF, hC.lt⟩⟩, fun hb => ⟨⟨(h3 hb).1.1, Nat.le_trans (h3 hb).1.2 hstep.size⟩, procAny.step (h3 hb).2 hstep⟩, fun hb => ⟨⟨(h4 hb).1.1, Nat.le_trans (h4 hb).1.2 hstep.size⟩, mapAny.step (h4 hb).2 hstep⟩, fun hb => ⟨⟨(h5 hb).1.1, Nat.le_trans (h5 hb).1.2 hstep.size⟩, mapAny.step (h5 hb).2 hstep⟩, fun hi _ => Or.inl (h1 hi).1.2, pr02, pr03, pr04, fun _ hq => Or.inr (h3 hq).1.2, fun _ hq => Or.inr (h4 hq).1.2, fun _ hq => Or.inr (h5 hq).1.2, pr23, pr24, pr34⟩⟩
          · simp only [cond] at hf' ⊢; omega
          · subst hL0; rfl
          · first | rfl | (simp only [Act.put, List.setIfInBounds_toArray, List.set_cons_zero, List.set_cons_succ])
        · refine run_at (by kernel_rfl) (fun o ho K hK => ?_)
          simp only [List.getElem?_toArray, List.getElem?_cons_succ, List.getElem?_cons_zero, Option.some.injEq] at ho
          subst ho
          subst hT
          simp only [List.setIfInBounds_toArray, List.set_cons_zero, List.set_cons_succ]
          go_simp
          go_at_call 75
          refine (ProcNew_calls c.wait c.tries _ HFi.out.wait HFi.out.tries).mono ?_
          rintro e wA ⟨p, rfl, hC, hF, hbI⟩
          have hstep := below_trans (Chg.below (w := V) (by repeat (first | with_reducible exact Chg.refl _ _ | with_reducible exact chg0 | with_reducible refine Chg.drewN ?_ _ | with_reducible refine Chg.drew ?_ | with_reducible refine Chg.alloc ?_ _ | with_reducible refine Chg.setCell ?_ _ _ (by first | (simp; done) | omega | (simp; omega)) | with_reducible refine Chg.setBlock ?_ _ _ (by first | (simp; done) | omega | (simp; omega)) | exact Chg.refl _ _))) hbI
          have hS' := kept_9 (S := fun _ => False) (Chg.of_below hstep) (by simp) hS
          go_wp2_with fail
          refine hK.out _ _ ⟨hS', ⟨b0, b1, true, b3, b4, t0, t1, _, t3, t4, gl0, gh0, gl1, gh1, V.heap.size, wA.heap.size, gl3, gh3, gl4, gh4, ?_, ?_, ?_, hS', below_trans hB hstep, fun hb => ⟨⟨(h1 hb).1.1, Nat.le_trans (h1 hb).1.2 hstep.size⟩, cacheAny.step (h1 hb).2 hstep⟩, fun hb => ⟨⟨(h2 hb).1.1, Nat.le_trans (h2 hb).1.2 hstep.size⟩, tableAny.step (h2 hb).2 hstep⟩, fun _ => ⟨⟨hB.size, Nat.le_refl _⟩, ⟨p, rfl, hC, hF, hC.lt⟩⟩, fun hb => ⟨⟨(h4 hb).1.1, Nat.le_trans (h4 hb).1.2 hstep.size⟩, mapAny.step (h4 hb).2 hstep⟩, fun hb => ⟨⟨(h5 hb).1.1, Nat.le_trans (h5 hb).1.2 hstep.size⟩, mapAny.step (h5 hb).2 hstep⟩, pr01, fun hi _ => Or.inl (h1 hi).1.2, pr03, pr04, fun hi _ => Or.inl (h2 hi).1.2, pr13, pr14, fun _ hq => Or.inr (h4 hq).1.2, fun _ hq => Or.inr (h5 hq).1.2, pr34⟩⟩
          · simp only [cond] at hf' ⊢; omega
          · subst hL0; rfl
          · first | rfl | (simp only [Act.put, List.setIfInBounds_toArray, List.set_cons_zero, List.set_cons_succ])
        · refine run_at (by kernel_rfl) (fun o ho K hK => ?_)
          simp only [List.getElem?_toArray, List.getElem?_cons_succ, List.getElem?_cons_zero, Option.some.injEq] at ho
          subst ho
          subst hT
          simp only [List.setIfInBounds_toArray, List.set_cons_zero, List.set_cons_succ]
          go_simp
          have hstep : Below V.heap.size V (V.alloc (.map #[] 0)) := Chg.below (by repeat (first | with_reducible exact Chg.refl _ _ | with_reducible exact chg0 | with_reducible refine Chg.drewN ?_ _ | with_reducible refine Chg.drew ?_ | with_reducible refine Chg.alloc ?_ _ | with_reducible refine Chg.setCell ?_ _ _ (by first | (simp; done) | omega | (simp; omega)) | with_reducible refine Chg.setBlock ?_ _ _ (by first | (simp; done) | omega | (simp; omega)) | exact Chg.refl _ _))
          have hS' := kept_9 (S := fun _ => False) (Chg.of_below hstep) (by simp) hS
          refine hK.out _ _ ⟨hS', ⟨b0, b1, b2, true, b4, t0, t1, t2, _, t4, gl0, gh0, gl1, gh1, gl2, gh2, V.heap.size, (V.alloc (.map #[] 0)).heap.size, gl4, gh4, ?_, ?_, ?_, hS', below_trans hB hstep, fun hb => ⟨⟨(h1 hb).1.1, Nat.le_trans (h1 hb).1.2 hstep.size⟩, cacheAny.step (h1 hb).2 hstep⟩, fun hb => ⟨⟨(h2 hb).1.1, Nat.le_trans (h2 hb).1.2 hstep.size⟩, tableAny.step (h2 hb).2 hstep⟩, fun hb => ⟨⟨(h3 hb).1.1, Nat.le_trans (h3 hb).1.2 hstep.size⟩, procAny.step (h3 hb).2 hstep⟩, fun _ => ⟨⟨hB.size, Nat.le_refl _⟩, ⟨_, rfl, ob_alloc_at _ _, Nat.le_refl _, by simp⟩⟩, fun hb => ⟨⟨(h5 hb).1.1, Nat.le_trans (h5 hb).1.2 hstep.size⟩, mapAny.step (h5 hb).2 hstep⟩, pr01, pr02, fun hi _ => Or.inl (h1 hi).1.2, pr04, pr12, fun hi _ => Or.inl (h2 hi).1.2, pr14, fun hi _ => Or.inl (h3 hi).1.2, pr24, fun _ hq => Or.inr (h5 hq).1.2⟩⟩
          · simp only [cond] at hf' ⊢; omega
          · subst hL0; rfl
          · first | rfl | (simp only [Act.put, List.setIfInBounds_toArray, List.set_cons_zero, List.set_cons_succ])
        · refine run_at (by kernel_rfl) (fun o ho K hK => ?_)
          simp only [List.getElem?_toArray, List.getElem?_cons_succ, List.getElem?_cons_zero, Option.some.injEq] at ho
          subst ho
          subst hT
          simp only [List.setIfInBounds_toArray, List.set_cons_zero, List.set_cons_succ]
          go_simp
          have hstep : Below V.heap.size V (V.alloc (.map #[] 0)) := Chg.below (by repeat (first | with_reducible exact Chg.refl _ _ | with_reducible exact chg0 | with_reducible refine Chg.drewN ?_ _ | with_reducible refine Chg.drew ?_ | with_reducible refine Chg.alloc ?_ _ | with_reducible refine Chg.setCell ?_ _ _ (by first | (simp; done) | omega | (simp; omega)) | with_reducible refine Chg.setBlock ?_ _ _ (by first | (simp; done) | omega | (simp; omega)) | exact Chg.refl _ _))
          have hS' := kept_9 (S := fun _ => False) (Chg.of_below hstep) (by simp) hS
          refine hK.out _ _ ⟨hS', ⟨b0, b1, b2, b3, true, t0, t1, t2, t3, _, gl0, gh0, gl1, gh1, gl2, gh2, gl3, gh3, V.heap.size, (V.alloc (.map #[] 0)).heap.size, ?_, ?_, ?_, hS', below_trans hB hstep, fun hb => ⟨⟨(h1 hb).1.1, Nat.le_trans (h1 hb).1.2 hstep.size⟩, cacheAny.step (h1 hb).2 hstep⟩, fun hb => ⟨⟨(h2 hb).1.1, Nat.le_trans (h2 hb).1.2 hstep.size⟩, tableAny.step (h2 hb).2 hstep⟩, fun hb => ⟨⟨(h3 hb).1.1, Nat.le_trans (h3 hb).1.2 hstep.size⟩, procAny.step (h3 hb).2 hstep⟩, fun hb => ⟨⟨(h4 hb).1.1, Nat.le_trans (h4 hb).1.2 hstep.size⟩, mapAny.step (h4 hb).2 hstep⟩, fun _ => ⟨⟨hB.size, Nat.le_refl _⟩, ⟨_, rfl, ob_alloc_at _ _, Nat.le_refl _, by simp⟩⟩, pr01, pr02, pr03, fun hi _ => Or.inl (h1 hi).1.2, pr12, pr13, fun hi _ => Or.inl (h2 hi).1.2, pr23, fun hi _ => Or.inl (h3 hi).1.2, fun hi _ => Or.inl (h4 hi).1.2⟩⟩
          · simp only [cond] at hf' ⊢; omega
          · subst hL0; rfl
          · first | rfl | (simp only [Act.put, List.setIfInBounds_toArray, List.set_cons_zero, List.set_cons_succ])
end
end Go.Proofs.YtchlioikkhnidaaGreat
