/-
  Words of the statements on a node; rows at once.
-/
import Derived.Test.YtchlioikkhnidaaGreatMN12
import Derived.Deep.MidRow
import Derived.Deep.WholeRow
set_option linter.unusedVariables false
set_option linter.unusedSimpArgs false
namespace Go.Proofs.YtchlioikkhnidaaGreat
open Go.RowKit Go.Sort Go.ChangeShapes Go.WideShapes Go.ChangeAt
set_option linter.unusedVariables false
set_option linter.unusedSimpArgs false
theorem Nd0.base {w w1 w2 : World} {a : NAddr} {n : Node} {FC : Nat → Prop} (h : Nd0 w1 w2 a n FC) (hb : Below w.heap.size w w1) : Nd0 w w2 a n FC :=
  ⟨h.here, fun j hj => Nat.le_trans hb.size (h.low j hj), below_trans hb h.below⟩
def cfgOb (w : World) (b : Nat) (c : Config) : Prop := ob w b = some (.cells #[.int .i64 c.nodes, .int .i64 c.blocks, .int .i64 c.tokens, .int .i64 c.sets, .int .i64 c.ways, .int .i64 c.cap, .int .i64 c.wait, .int .i64 c.tries, .int .i64 c.policy] 23 (0, 0))
def opOb (w : World) (b : Nat) (op : Op) : Prop := ob w b = some (.cells #[.int .i64 op.block, .bool op.write, .int .i64 op.value] 25 (0, 0))
def bunOb (w : World) (k : Nat) (b : Bundle) : Prop := ob w k = some (.cells #[.int .i64 b.count, .bool b.owner, .bool b.has, .int .i64 b.data] 42 (0, 0))
def act15Ob (w : World) (b : Nat) (d : Act15) : Prop := ob w b = some (.cells #[.int .i64 d.kind, .int .i64 d.op.block, .bool d.op.write, .int .i64 d.op.value, .int .i64 d.letter.kind, .int .i64 d.letter.src, .int .i64 d.letter.dst, .int .i64 d.letter.block, .int .i64 d.letter.seq, .int .i64 d.letter.who, .bool d.letter.write, .int .i64 d.letter.tokens.count, .bool d.letter.tokens.owner, .bool d.letter.tokens.has, .int .i64 d.letter.tokens.data, .int .i64 d.draws.d0, .int .i64 d.draws.d1, .int .i64 d.draws.d2] 46 (0, 0))
theorem act15At {l : List Act15} {w w' : World} {b off k : Nat} (h : RowsAt w b off 18 (l.map Act15.cells)) (hb : Below w.heap.size w w') (hk : k < l.length) : w'.rangeAt b (off + k * 18) (l[k]).cells :=
  rangeAt_below (h k _ (by simp [hk])) hb
end Go.Proofs.YtchlioikkhnidaaGreat
namespace Go.Proofs.YtchlioikkhnidaaGreat
open Go.RowKit Go.Sort Go.ChangeShapes Go.WideShapes Go.ChangeAt
theorem wpList_store_new {P : Program} {ops : Array Oper} {rest : List Oper} {op : Oper} {a : Go.Act} {w : World} {Q : Exit → Go.Act → World → Prop} (hgd : op.guard = none) (ty : TypeId) (x y : Operand) (ho : op.op = .store ty x y)
    (c c' : Array Value) (hx : a.eval x = .pointer (some ⟨w.heap.size, 0, none⟩)) (hy : a.eval y = .agg c')
    (hi : (P.info? ty).map (·.size) = some c'.size) (hs : c.size = c'.size) (h1 : c'.all (·.oneCell') = true)
    (h : wpList P ops Q rest (a.put op.dst undef) (w.alloc (.cells c' ty))) : wpList P ops Q (op :: rest) a (w.alloc (.cells c ty)) :=
  wpList_plain hgd fun _ hK => by
    unfold Oper.wp execOp
    simp only [ho, hx, hy, run_storeAt_new w ty c c' hi hs h1, Sem.run_bind, Sem.run_pure, Result.andThen_ok]
    exact hK _ _ h
theorem wpList_load_row {P : Program} {ops : Array Oper} {rest : List Oper} {op : Oper} {a : Go.Act} {w : World} {Q : Exit → Go.Act → World → Prop} (hgd : op.guard = none) (ty : TypeId) (x : Operand) (ho : op.op = .load ty x)
    (b o : Nat) (hx : a.eval x = .pointer (some ⟨b, o, none⟩)) (cs : List Value) (hc : w.rangeAt b o cs)
    (hu : (P.underlying ty).map (·.isRow) = some true) (hi : (P.info? ty).map (·.size) = some cs.length)
    (h : wpList P ops Q rest (a.put op.dst (.agg cs.toArray)) w) : wpList P ops Q (op :: rest) a w := by
  cases hq : P.underlying ty with
  | none => simp [hq] at hu
  | some d => exact wpList_load_mid hgd ty x ho b o hx cs d hc hq (by simpa [hq] using hu) hi h
end Go.Proofs.YtchlioikkhnidaaGreat
