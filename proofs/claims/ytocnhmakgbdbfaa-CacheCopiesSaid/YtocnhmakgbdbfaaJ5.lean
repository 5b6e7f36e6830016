/-
  Results that lie in memory: a struct that is returned out of a local of its own.
-/
import Derived.Test.YtocnhmakgbdbfaaJ
import Derived.Laws.Rows
namespace Go.Proofs.Ytocnhmakgbdbfaa
open Go.RowKit

/-- What a result's place gives. -/
def ResIs (P : Program) (w : World) (tmps : Array Value) : ResultVar → Value → Prop
  | .tmp t, v => tmps.getD t undef = v
  | .cell p ty, v => (asAddr (tmps.getD p undef)).run P w = .ok (match tmps.getD p undef with | .pointer (some a) => a | _ => ⟨0, 0, none⟩) w ∧
      (loadVar ty (match tmps.getD p undef with | .pointer (some a) => a | _ => ⟨0, 0, none⟩)).run P w = .ok v w

theorem ResIs.tmp {P : Program} {w : World} {tmps : Array Value} {t : Tmp} : ResIs P w tmps (.tmp t) (tmps.getD t undef) := rfl
theorem ResIs.row {P : Program} {w : World} {tmps : Array Value} {p : Tmp} {ty t : TypeId} {g : Nat} {cs : Array Value} {fr : Nat × Nat} {d : TypeDesc}
    (hu : P.underlying ty = some d) (hd : (match d with | .struct _ | .array _ _ => true | _ => false) = true) (hi : (P.info? ty).map (·.size) = some cs.size)
    (hp : tmps.getD p undef = .pointer (some ⟨g, 0, none⟩)) (hg : ob w g = some (.cells cs t fr)) : ResIs P w tmps (.cell p ty) (.agg cs) := by
  refine ⟨?_, ?_⟩
  · rw [hp]; simp [asAddr]
  · rw [hp]; exact run_loadVar_row w g t ty cs fr d hg hu hd hi

theorem results_one {P : Program} {fn : Func} {r : ResultVar} {tmps : Array Value} {w : World} {v : Value} (h : fn.results = #[r]) (h1 : ResIs P w tmps r v) : (results fn tmps).run P w = .ok v w := by
  cases r with
  | tmp t => simp only [ResIs] at h1; simp [results, h]; simpa using h1
  | cell p ty =>
    obtain ⟨a, b⟩ := h1
    simp only [results, h]
    simp at a b
    simp [a, b]
theorem results_two {P : Program} {fn : Func} {r1 r2 : ResultVar} {tmps : Array Value} {w : World} {v1 v2 : Value} (h : fn.results = #[r1, r2]) (h1 : ResIs P w tmps r1 v1) (h2 : ResIs P w tmps r2 v2) :
    (results fn tmps).run P w = .ok (.tuple #[v1, v2]) w := by
  cases r1 <;> cases r2
  all_goals
    (try obtain ⟨a1, b1⟩ := h1)
    (try obtain ⟨a2, b2⟩ := h2)
    (try simp at a1 b1)
    (try simp at a2 b2)
    simp only [results, h]
    simp [*]
    try simp_all [ResIs]
theorem results_three {P : Program} {fn : Func} {r1 r2 r3 : ResultVar} {tmps : Array Value} {w : World} {v1 v2 v3 : Value} (h : fn.results = #[r1, r2, r3]) (h1 : ResIs P w tmps r1 v1) (h2 : ResIs P w tmps r2 v2) (h3 : ResIs P w tmps r3 v3) :
    (results fn tmps).run P w = .ok (.tuple #[v1, v2, v3]) w := by
  cases r1 <;> cases r2 <;> cases r3
  all_goals
    (try obtain ⟨a1, b1⟩ := h1)
    (try obtain ⟨a2, b2⟩ := h2)
    (try obtain ⟨a3, b3⟩ := h3)
    (try simp at a1 b1)
    (try simp at a2 b2)
    (try simp at a3 b3)
    simp only [results, h]
    simp [*]
    try simp_all [ResIs]
theorem bodyRet1 {P : Program} {fn : Func} {R : Ending → World → Prop} {a : Act} {w : World} {r : ResultVar} (v : Value) (h : fn.results = #[r]) (hd : a.defers = []) (h1 : ResIs P w a.tmps r v) (hR : R (.returned v) w) : bodyPost P fn R .ret a w :=
  ⟨hd, v, results_one h h1, hR⟩
theorem bodyRet2 {P : Program} {fn : Func} {R : Ending → World → Prop} {a : Act} {w : World} {r1 r2 : ResultVar} (v1 v2 : Value) (h : fn.results = #[r1, r2]) (hd : a.defers = []) (h1 : ResIs P w a.tmps r1 v1) (h2 : ResIs P w a.tmps r2 v2) (hR : R (.returned (.tuple #[v1, v2])) w) : bodyPost P fn R .ret a w :=
  ⟨hd, _, results_two h h1 h2, hR⟩
theorem bodyRet3 {P : Program} {fn : Func} {R : Ending → World → Prop} {a : Act} {w : World} {r1 r2 r3 : ResultVar} (v1 v2 v3 : Value) (h : fn.results = #[r1, r2, r3]) (hd : a.defers = []) (h1 : ResIs P w a.tmps r1 v1) (h2 : ResIs P w a.tmps r2 v2) (h3 : ResIs P w a.tmps r3 v3) (hR : R (.returned (.tuple #[v1, v2, v3])) w) : bodyPost P fn R .ret a w :=
  ⟨hd, _, results_three h h1 h2 h3, hR⟩
theorem ob_cells3 {w : World} {b : Nat} {t : TypeId} {a0 a1 a2 : Value} (h : ob w b = some (.cells #[a0, a1, a2] t (0, 0))) : w.cell? ⟨b, 0, none⟩ = some a0 ∧ w.cell? ⟨b, 1, none⟩ = some a1 ∧ w.cell? ⟨b, 2, none⟩ = some a2 ∧ ∀ i, w.frozen? ⟨b, i, none⟩ = false :=
  ⟨cell_ob h 0, cell_ob h 1, cell_ob h 2, fun i => frozen_ob h i⟩
theorem ob_cells4 {w : World} {b : Nat} {t : TypeId} {a0 a1 a2 a3 : Value} (h : ob w b = some (.cells #[a0, a1, a2, a3] t (0, 0))) : w.cell? ⟨b, 0, none⟩ = some a0 ∧ w.cell? ⟨b, 1, none⟩ = some a1 ∧ w.cell? ⟨b, 2, none⟩ = some a2 ∧ w.cell? ⟨b, 3, none⟩ = some a3 ∧ ∀ i, w.frozen? ⟨b, i, none⟩ = false :=
  ⟨cell_ob h 0, cell_ob h 1, cell_ob h 2, cell_ob h 3, fun i => frozen_ob h i⟩
theorem ob_cells5 {w : World} {b : Nat} {t : TypeId} {a0 a1 a2 a3 a4 : Value} (h : ob w b = some (.cells #[a0, a1, a2, a3, a4] t (0, 0))) : w.cell? ⟨b, 0, none⟩ = some a0 ∧ w.cell? ⟨b, 1, none⟩ = some a1 ∧ w.cell? ⟨b, 2, none⟩ = some a2 ∧ w.cell? ⟨b, 3, none⟩ = some a3 ∧ w.cell? ⟨b, 4, none⟩ = some a4 ∧ ∀ i, w.frozen? ⟨b, i, none⟩ = false :=
  ⟨cell_ob h 0, cell_ob h 1, cell_ob h 2, cell_ob h 3, cell_ob h 4, fun i => frozen_ob h i⟩
theorem ob_cells7 {w : World} {b : Nat} {t : TypeId} {a0 a1 a2 a3 a4 a5 a6 : Value} (h : ob w b = some (.cells #[a0, a1, a2, a3, a4, a5, a6] t (0, 0))) : w.cell? ⟨b, 0, none⟩ = some a0 ∧ w.cell? ⟨b, 1, none⟩ = some a1 ∧ w.cell? ⟨b, 2, none⟩ = some a2 ∧ w.cell? ⟨b, 3, none⟩ = some a3 ∧ w.cell? ⟨b, 4, none⟩ = some a4 ∧ w.cell? ⟨b, 5, none⟩ = some a5 ∧ w.cell? ⟨b, 6, none⟩ = some a6 ∧ ∀ i, w.frozen? ⟨b, i, none⟩ = false :=
  ⟨cell_ob h 0, cell_ob h 1, cell_ob h 2, cell_ob h 3, cell_ob h 4, cell_ob h 5, cell_ob h 6, fun i => frozen_ob h i⟩
theorem ob_cells11 {w : World} {b : Nat} {t : TypeId} {a0 a1 a2 a3 a4 a5 a6 a7 a8 a9 a10 : Value} (h : ob w b = some (.cells #[a0, a1, a2, a3, a4, a5, a6, a7, a8, a9, a10] t (0, 0))) : w.cell? ⟨b, 0, none⟩ = some a0 ∧ w.cell? ⟨b, 1, none⟩ = some a1 ∧ w.cell? ⟨b, 2, none⟩ = some a2 ∧ w.cell? ⟨b, 3, none⟩ = some a3 ∧ w.cell? ⟨b, 4, none⟩ = some a4 ∧ w.cell? ⟨b, 5, none⟩ = some a5 ∧ w.cell? ⟨b, 6, none⟩ = some a6 ∧ w.cell? ⟨b, 7, none⟩ = some a7 ∧ w.cell? ⟨b, 8, none⟩ = some a8 ∧ w.cell? ⟨b, 9, none⟩ = some a9 ∧ w.cell? ⟨b, 10, none⟩ = some a10 ∧ ∀ i, w.frozen? ⟨b, i, none⟩ = false :=
  ⟨cell_ob h 0, cell_ob h 1, cell_ob h 2, cell_ob h 3, cell_ob h 4, cell_ob h 5, cell_ob h 6, cell_ob h 7, cell_ob h 8, cell_ob h 9, cell_ob h 10, fun i => frozen_ob h i⟩
theorem ob_alloc2 (w : World) (o o' : Obj) : ob ((w.alloc o).alloc o') (w.heap.size + 1) = some o' := ob_alloc_new _ _ _ (by simp)
theorem ob_step {w w' : World} {b : Nat} {o : Obj} (hb : Below w.heap.size w w') (h : ob w b = some o) : ob w' b = some o := (Chg.of_below (S := fun _ => False) hb).ob h fun h => h
theorem keep3 {S : Nat → Prop} {w w' : World} {k : Nat} {a b c : Value} (hc : Chg S w w') (hn : ¬ S k) (h : w.cell? ⟨k, 0, none⟩ = some a ∧ w.cell? ⟨k, 1, none⟩ = some b ∧ w.cell? ⟨k, 2, none⟩ = some c) :
    w'.cell? ⟨k, 0, none⟩ = some a ∧ w'.cell? ⟨k, 1, none⟩ = some b ∧ w'.cell? ⟨k, 2, none⟩ = some c :=
  ⟨hc.cell h.1 hn, hc.cell h.2.1 hn, hc.cell h.2.2 hn⟩
end Go.Proofs.Ytocnhmakgbdbfaa
