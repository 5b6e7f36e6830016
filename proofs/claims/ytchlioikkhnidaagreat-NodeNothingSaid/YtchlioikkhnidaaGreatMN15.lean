/-
  The statements on a node to which anything happens: the node among blocks that stay.
-/
import Derived.Test.YtchlioikkhnidaaGreatMN13
import Derived.Test.YtchlioikkhnidaaGreatMN14
import Derived.Test.YtchlioikkhnidaaGreatMN2
set_option linter.unusedVariables false
set_option linter.unusedSimpArgs false
namespace Go.Proofs.YtchlioikkhnidaaGreat
open Go.RowKit Go.Sort Go.ChangeShapes Go.WideShapes Go.ChangeAt
open Go.ChangeMaps (setBlock)
set_option linter.unusedVariables false
set_option linter.unusedSimpArgs false
structure NdA (w wr : World) (a : NAddr) (n : Node) (F : Nat → Prop) (As : List (Nat × Obj)) : Prop where
  node : Nd0 w wr a n F
  aside : ∀ p ∈ As, ob wr p.1 = some p.2 ∧ ¬ nFp a F p.1
section
variable {w wr wx : World} {a : NAddr} {n n' : Node} {F F' : Nat → Prop} {As : List (Nat × Obj)} {b : Nat} {o o' : Obj} {v1 v2 : Value} {L : List Letter} {D : List Done}
theorem NdA.same (h : NdA w wr a n F As) (hb : Below wr.heap.size wr wx) : NdA w wx a n F As := ⟨h.node.same hb, fun p hp => ⟨ob_step hb (h.aside p hp).1, (h.aside p hp).2⟩⟩
theorem NdA.sent (h : NdA w wr a n F As) (hs : Sent wr wx a n' F F' v1 v2 L D) : NdA w wx a n' F' As :=
  ⟨h.node.sent hs, fun p hp => hs.moves.aside (h.aside p hp).1 (h.aside p hp).2⟩
theorem NdA.nil (h : Nd0 w wr a n F) : NdA w wr a n F [] := ⟨h, by simp⟩
theorem NdA.cons (h : NdA w wr a n F As) (ho : ob wr b = some o) (hn : ¬ nFp a F b) : NdA w wr a n F ((b, o) :: As) :=
  ⟨h.node, fun p hp => by
    rcases List.mem_cons.1 hp with rfl | hp
    · exact ⟨ho, hn⟩
    · exact h.aside p hp⟩
theorem NdA.add (h : NdA w wr a n F As) (hb : Below wr.heap.size wr wx) (ho : ob wx b = some o) (hk : wr.heap.size ≤ b) : NdA w wx a n F ((b, o) :: As) :=
  (h.same hb).cons ho fun hf => by have := h.node.here.lt b hf; omega
theorem NdA.tail {p : Nat × Obj} (h : NdA w wr a n F (p :: As)) : NdA w wr a n F As := ⟨h.node, fun q hq => h.aside q (by simp [hq])⟩
theorem NdA.head (h : NdA w wr a n F ((b, o) :: As)) : ob wr b = some o ∧ ¬ nFp a F b := h.aside (b, o) (by simp)
theorem NdA.put (h : NdA w wr a n F ((b, o) :: As)) (hc : Chg (fun j => j = b) wr wx) (ho : ob wx b = some o') (hl : w.heap.size ≤ b) (hne : ∀ p ∈ As, p.1 ≠ b) : NdA w wx a n F ((b, o') :: As) := by
  have hb := h.head.2
  refine ⟨⟨h.node.here.chg hc (fun j hj e => by subst e; exact hb hj), h.node.low, below_chg h.node.below hc (fun j hj e => by omega)⟩, fun p hp => ?_⟩
  rcases List.mem_cons.1 hp with rfl | hp
  · exact ⟨ho, hb⟩
  · obtain ⟨h1, h2⟩ := h.aside p (by simp [hp])
    exact ⟨hc.ob h1 (hne p hp), h2⟩
end
def cfgO (c : Config) : Obj := .cells #[.int .i64 c.nodes, .int .i64 c.blocks, .int .i64 c.tokens, .int .i64 c.sets, .int .i64 c.ways, .int .i64 c.cap, .int .i64 c.wait, .int .i64 c.tries, .int .i64 c.policy] 23 (0, 0)
def outO (v1 v2 : Value) : Obj := .cells #[v1, v2] 35 (0, 0)
def actO (d : Act15) : Obj := .cells d.cells.toArray 46 (0, 0)
theorem rangeAt_part {w : World} {b off : Nat} {A B C : List Value} (h : w.rangeAt b off (A ++ B ++ C)) : w.rangeAt b (off + A.length) B := fun i v hv => by
  have := h (A.length + i) v (by rw [List.append_assoc, List.getElem?_append_right (by omega), List.getElem?_append_left (by have := (List.getElem?_eq_some_iff.1 hv).1; omega)]; simpa using hv)
  simpa [Nat.add_assoc] using this
theorem act15_op {w : World} {b off : Nat} {d : Act15} (h : w.rangeAt b off d.cells) : w.rangeAt b (off + 1) d.op.cells := rangeAt_part (A := [.int .i64 d.kind]) (B := d.op.cells) (C := d.letter.cells ++ d.draws.cells) h
theorem act15_letter {w : World} {b off : Nat} {d : Act15} (h : w.rangeAt b off d.cells) : w.rangeAt b (off + 4) d.letter.cells := rangeAt_part (A := [.int .i64 d.kind] ++ d.op.cells) (B := d.letter.cells) (C := d.draws.cells) h
theorem act15_draws {w : World} {b off : Nat} {d : Act15} (h : w.rangeAt b off d.cells) : w.rangeAt b (off + 15) d.draws.cells := rangeAt_part (A := [.int .i64 d.kind] ++ d.op.cells ++ d.letter.cells) (B := d.draws.cells) (C := []) (by rw [List.append_nil]; exact h)
theorem range_ob {w : World} {b t : Nat} {cs : List Value} {fr : Nat × Nat} (h : ob w b = some (.cells cs.toArray t fr)) : w.rangeAt b 0 cs := fun i v hv => by
  rw [Nat.zero_add, cell_ob h i]
  simpa using hv
theorem actO_range {w : World} {b : Nat} {d : Act15} (h : ob w b = some (actO d)) : w.rangeAt b 1 d.op.cells ∧ w.rangeAt b 4 d.letter.cells ∧ w.rangeAt b 15 d.draws.cells ∧ w.cell? ⟨b, 0, none⟩ = some (.int .i64 d.kind) := by
  have h0 := range_ob h
  exact ⟨by simpa using act15_op h0, by simpa using act15_letter h0, by simpa using act15_draws h0, h0 0 _ rfl⟩
theorem outO_cells {w : World} {b : Nat} {v1 v2 : Value} (h : ob w b = some (outO v1 v2)) : w.cell? ⟨b, 0, none⟩ = some v1 ∧ w.cell? ⟨b, 1, none⟩ = some v2 ∧ (∀ i, w.frozen? ⟨b, i, none⟩ = false) ∧ b < w.heap.size :=
  ⟨cell_ob h 0, cell_ob h 1, frozen_ob h, ob_lt h⟩
theorem Own0.atMap {w0 w w' : World} {e sz K : Nat} {v : Value} {rows : List (List Value)} {o : Obj} (h : Own0 w0 w e sz v rows) (hk : ob w K = some o) (hm : ∃ es c, o = .map es c) (hc : Chg (fun j => j = K) w w') : Own0 w0 w' e sz v rows := by
  refine ⟨h.1.chg hc fun k hj e => ?_, h.2⟩
  subst e
  obtain ⟨c, hc⟩ := h.1.typed hj
  obtain ⟨es, cl, rfl⟩ := hm
  rw [hk] at hc
  cases hc
def letO (x : Letter) : Obj := .cells x.cells.toArray 44 (0, 0)
end Go.Proofs.YtchlioikkhnidaaGreat
