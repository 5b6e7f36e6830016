/-
  The statements on the node: words that they share.
-/
import Derived.Test.YtchlioikkhnidaaGreatMN12
import Derived.Test.YtchlioikkhnidaaGreatMA
import Derived.Deep.MidRow
import Derived.Deep.WholeRow
set_option linter.unusedVariables false
set_option linter.unusedSimpArgs false
namespace Go.Proofs.YtchlioikkhnidaaGreat
open Go.RowKit Go.Sort Go.ChangeShapes Go.WideShapes Go.ChangeAt
set_option linter.unusedVariables false
set_option linter.unusedSimpArgs false
theorem Nd0.base {w w1 w2 : World} {a : NAddr} {n : Node} {FC : Nat → Prop} (h : Nd0 w1 w2 a n FC) (hb : Below w.heap.size w w1) : Nd0 w w2 a n FC :=
  ⟨h.here, fun j hj => Nat.le_trans hb.size (h.low j hj), below_trans hb h.below⟩
def cfgOb (w : World) (b : Nat) (c : Config) : Prop := ob w b = some (.cells #[.int .i64 c.nodes, .int .i64 c.blocks, .int .i64 c.tokens, .int .i64 c.sets, .int .i64 c.ways, .int .i64 c.cap, .int .i64 c.wait, .int .i64 c.tries, .int .i64 c.policy] 23 (0, 0))
def opOb (w : World) (b : Nat) (op : Op) : Prop := ob w b = some (.cells #[.int .i64 op.block, .bool op.write, .int .i64 op.value] 25 (0, 0))
def bunOb (w : World) (k : Nat) (b : Bundle) : Prop := ob w k = some (.cells #[.int .i64 b.count, .bool b.owner, .bool b.has, .int .i64 b.data] 42 (0, 0))
def act15Ob (w : World) (b : Nat) (d : Act15) : Prop := ob w b = some (.cells #[.int .i64 d.kind, .int .i64 d.op.block, .bool d.op.write, .int .i64 d.op.value, .int .i64 d.letter.kind, .int .i64 d.letter.src, .int .i64 d.letter.dst, .int .i64 d.letter.block, .int .i64 d.letter.seq, .int .i64 d.letter.who, .bool d.letter.write, .int .i64 d.letter.tokens.count, .bool d.letter.tokens.owner, .bool d.letter.tokens.has, .int .i64 d.letter.tokens.data, .int .i64 d.draws.d0, .int .i64 d.draws.d1, .int .i64 d.draws.d2] 46 (0, 0))
theorem act15At {l : List Act15} {w w' : World} {b off k : Nat} (h : RowsAt w b off 18 (l.map Act15.cells)) (hb : Below w.heap.size w w') (hk : k < l.length) : w'.rangeAt b (off + k * 18) (l[k]).cells :=
  rangeAt_below (h k _ (by simp [hk])) hb
end Go.Proofs.YtchlioikkhnidaaGreat

/-
  A node, plainly: what it gives while a request of its own is active. No program is named.
-/
set_option linter.unusedVariables false
set_option linter.unusedSimpArgs false
namespace Go.Proofs.YtchlioikkhnidaaGreat
open Go.RowKit
def givesA (c : Config) (op : Op) : Letter := ⟨4, c.nodes, 0, op.block, 1, 0, false, Bundle.none⟩
def givesB : Bundle := ⟨1, false, false, 0⟩
def givesT (c : Config) (op : Op) : Letter := ⟨1, c.nodes, 0, op.block, 0, 0, false, givesB⟩
def givesQ (op : Op) (write : Bool) : Letter := ⟨2, 1, 0, op.block, 0, 0, write, Bundle.none⟩
def givesN1 (c : Config) (op : Op) : Node := { Node.new c 0 with cpu := ((Proc.new c.wait c.tries).issue op).1 }
def givesN2 (c : Config) (op : Op) : Node := { givesN1 c op with table := (Table.new.activate ⟨op.block, 0, 1⟩).1 }
def givesN3 (c : Config) (op : Op) : Node := { givesN2 c op with cache := (CacheM.new c.sets c.ways).lay op.block givesB }
section
variable {c : Config} {op : Op}
theorem gives_table : (Table.new.activate ⟨op.block, 0, 1⟩) = (⟨fun j => if j = op.block then ⟨op.block, 0, 1⟩ else Active.zero, fun _ => 0⟩, true) := by
  unfold Table.activate
  rw [if_neg (by simp [Table.new, Active.zero])]
  rfl
theorem gives_pinned : ((Proc.new c.wait c.tries).issue op).1.pinned = op.block := by simp [Proc.issue, Proc.new, Proc.pinned]
theorem gives_1 (hc : c.Fine) (hb : 0 ≤ op.block ∧ op.block < c.blocks) (d : Draws) : (givesN1 c op).take (givesA c op) d = (givesN2 c op, [], []) := by
  have hn := hc.nodes
  have h1 : ¬ c.nodes = 0 := by omega
  have h2 : 0 < c.nodes := by omega
  have hl : Letter.legal c (givesA c op) = true := Letter.legal_iff.2 ⟨by simp [givesA], hb, by simp [givesA, Letter.ends, isNode, h1, h2], by simp [givesA], by simp [givesA, isNode, h2], by simp [givesA], by simp [givesA], by simp [givesA]⟩
  have ha : Node.activate (givesN1 c op) (givesA c op) = (givesN2 c op, []) := by
    have h1 : (givesN1 c op).activate (givesA c op) = if ((Table.new).activate ⟨op.block, 0, 1⟩).2 = false then (givesN1 c op, []) else if (0 : Int) = 0 then (if ((Proc.new c.wait c.tries).issue op).1.pinned = op.block then (givesN2 c op, []) else (givesN2 c op).endL op.block) else _ := rfl
    rw [h1, gives_table, if_neg (by simp), if_pos rfl, if_pos gives_pinned]
  unfold Node.take
  rw [if_neg (by rw [show (givesN1 c op).c = c from rfl, hl]; simp [givesA, givesN1, Node.new]), if_neg (by simp [givesA]), if_neg (by simp [givesA]), if_pos (show (givesA c op).kind = 4 from rfl), ha]
theorem gives_2 (hc : c.Fine) (hb : 0 ≤ op.block ∧ op.block < c.blocks) (d : Draws) : (givesN2 c op).take (givesT c op) d = (givesN3 c op, [], []) := by
  have hn := hc.nodes
  have h1 : ¬ c.nodes = 0 := by omega
  have h2 : 0 < c.nodes := by omega
  have ht := hc.tokens
  have hl : Letter.legal c (givesT c op) = true := Letter.legal_iff.2 ⟨by simp [givesT], hb, by simp [givesT, Letter.ends, isNode, isAny, h1, h2], by simp [givesT], by simp [givesT], by simp [givesT], by simp [givesT], fun _ => ⟨⟨by simp [givesT, givesB], by simp [givesT, givesB], by simp [givesT, givesB], by simp [givesT, givesB], by simp [givesT, givesB]⟩, by simp [givesT, givesB]; omega, by simp [givesT, givesB]⟩⟩
  have hoth : (givesN2 c op).other op.block = false := by
    have : (givesN2 c op).table = (⟨fun j => if j = op.block then ⟨op.block, 0, 1⟩ else Active.zero, fun _ => 0⟩ : Table) := by show (Table.new.activate _).1 = _; rw [gives_table]
    simp only [Node.other, this]
    simp [givesN2, givesN1, Node.new]
  have hab := new_absorb c.sets c.ways op.block givesB ((Proc.new c.wait c.tries).issue op).1.pinned (by simp [givesB]) hb.1
  have hse : (givesN3 c op).settle = (givesN3 c op, [], []) := by
    unfold Node.settle
    rw [if_neg (by simp [givesN3, givesN2, givesN1, Proc.issue, Proc.new]), if_pos]
    have hop : (givesN3 c op).cpu.op = op := by simp [givesN3, givesN2, givesN1, Proc.issue, Proc.new]
    rw [hop]
    simp [CacheM.does, givesN3, CacheM.lay, Bundle.may, givesB]
  have hto : (givesN2 c op).tokens (givesT c op) = (givesN3 c op, [], []) := by
    have h1 : (givesN2 c op).tokens (givesT c op) = if (givesN2 c op).other op.block = true then _ else
      ((Node.settle { givesN2 c op with cache := ((CacheM.new c.sets c.ways).absorb op.block givesB ((Proc.new c.wait c.tries).issue op).1.pinned).1 }).1, (if ((CacheM.new c.sets c.ways).absorb op.block givesB ((Proc.new c.wait c.tries).issue op).1.pinned).2.2 = true then _ else []) ++ (Node.settle { givesN2 c op with cache := ((CacheM.new c.sets c.ways).absorb op.block givesB ((Proc.new c.wait c.tries).issue op).1.pinned).1 }).2.1,
        (Node.settle { givesN2 c op with cache := ((CacheM.new c.sets c.ways).absorb op.block givesB ((Proc.new c.wait c.tries).issue op).1.pinned).1 }).2.2) := rfl
    rw [h1, hoth, if_neg (by simp), hab]
    have h3 : ({ givesN2 c op with cache := (CacheM.new c.sets c.ways).lay op.block givesB } : Node) = givesN3 c op := rfl
    simp only [h3, hse]
    simp
  unfold Node.take
  rw [if_neg (by rw [show (givesN2 c op).c = c from rfl, hl]; simp [givesT, givesN2, givesN1, Node.new]), if_pos (show (givesT c op).kind = 1 from rfl), hto]
theorem gives_3 (w : Bool) (d : Draws) : (givesN3 c op).take (givesQ op w) d = (givesN3 c op, [], []) := by
  have hown : (givesN3 c op).own op.block = true := by
    have : (givesN3 c op).table = (⟨fun j => if j = op.block then ⟨op.block, 0, 1⟩ else Active.zero, fun _ => 0⟩ : Table) := by show (Table.new.activate _).1 = _; rw [gives_table]
    simp only [Node.own, Table.on, this]
    simp [givesN3, givesN2, givesN1, Node.new]
  have hq : (givesN3 c op).asks (givesQ op w) d = (givesN3 c op, []) := by
    unfold Node.asks
    rw [if_pos ⟨hown, gives_pinned⟩]
  unfold Node.take
  split
  · rfl
  · rw [if_neg (by simp [givesQ]), if_pos (show (givesQ op w).kind = 2 from rfl), hq]
theorem gives_4 : (givesN3 c op).cpu.busy = true := by simp [givesN3, givesN2, givesN1, Proc.issue, Proc.new]
theorem gives_5 (hb : 0 ≤ op.block) : (givesN3 c op).cache.all = [⟨op.block, givesB⟩] := by
  have hw := clamp_pos c.ways
  have hp : ¬ clampI c.ways 1 16 ≤ 0 := by omega
  have hcan : (CacheM.new c.sets c.ways).lines.can op.block = true := by
    show Lines.can ⟨clampI c.sets 1 64, clampI c.ways 1 16, []⟩ op.block = true
    have h0 : ¬ op.block < 0 := by omega
    simp [Lines.can, Lines.has, Lines.mates, Lines.row, hp, h0]
  have hl : (givesN3 c op).cache.lines.all = [op.block] := by
    show ((CacheM.new c.sets c.ways).lines.add op.block).all = _
    unfold Lines.add
    rw [if_pos hcan]
    rfl
  have hli : (givesN3 c op).cache.lines.list = [op.block] := by
    unfold Lines.list
    rw [hl]
    simp
  unfold CacheM.all
  rw [hli]
  simp [givesN3, CacheM.lay]
theorem gives_all (hc : c.Fine) (hb : 0 ≤ op.block ∧ op.block < c.blocks) : ∃ (n1 n2 n3 : Node) (L1 : List Letter), (Node.new c 0).issue op ⟨0, 0, 0⟩ = (n1, L1, [], true) ∧ n1.take (givesA c op) ⟨0, 0, 0⟩ = (n2, [], []) ∧ n2.take (givesT c op) ⟨0, 0, 0⟩ = (n3, [], []) ∧ (∀ w d, n3.take (givesQ op w) d = (n3, [], [])) ∧
    n3.cpu.busy = true ∧ n3.cache.all = [⟨op.block, givesB⟩] ∧ (∀ b, (n1.cache.tok b).count ≤ 900000000000) ∧ (∀ b, (n2.cache.tok b).count ≤ 900000000000) ∧ (∀ b, (n3.cache.tok b).count ≤ 900000000000) :=
  ⟨givesN1 c op, givesN2 c op, givesN3 c op, _, issue_new c 0 op ⟨0, 0, 0⟩ hb, gives_1 hc hb _, gives_2 hc hb _, fun w d => gives_3 w d, gives_4, gives_5 hb.1, fun b => by simp [givesN1, Node.new, CacheM.new, Bundle.none], fun b => by simp [givesN2, givesN1, Node.new, CacheM.new, Bundle.none], fun b => by simp [givesN3, givesN2, givesN1, CacheM.lay, Node.new, CacheM.new, Bundle.none, givesB]; split <;> simp⟩
end
end Go.Proofs.YtchlioikkhnidaaGreat

namespace Go.Proofs.YtchlioikkhnidaaGreat
open Go.RowKit Go.Sort Go.ChangeShapes Go.WideShapes Go.ChangeAt
theorem wpList_store_new {P : Program} {ops : Array Oper} {rest : List Oper} {op : Oper} {a : Go.Act} {w : World} {Q : Exit → Go.Act → World → Prop} (hgd : op.guard = none) (ty : TypeId) (x y : Operand) (ho : op.op = .store ty x y)
    (c c' : Array Value) (hx : a.eval x = .pointer (some ⟨w.heap.size, 0, none⟩)) (hy : a.eval y = .agg c')
    (hi : (P.info? ty).map (·.size) = some c'.size) (hs : c.size = c'.size) (h1 : c'.all (·.oneCell') = true)
    (h : wpList P ops Q rest (a.put op.dst undef) (w.alloc (.cells c' ty))) : wpList P ops Q (op :: rest) a (w.alloc (.cells c ty)) :=
  wpList_plain hgd fun _ hK => by
    unfold Oper.wp execOp
    simp only [ho, hx, hy, run_storeAt_new w ty c c' hi hs h1, Sem.run_bind, Sem.run_pure, Result.andThen_ok]
    exact hK _ _ h
theorem wpList_load_row {P : Program} {ops : Array Oper} {rest : List Oper} {op : Oper} {a : Go.Act} {w : World} {Q : Exit → Go.Act → World → Prop} (hgd : op.guard = none) (ty : TypeId) (x : Operand) (ho : op.op = .load ty x)
    (b o : Nat) (hx : a.eval x = .pointer (some ⟨b, o, none⟩)) (cs : List Value) (hc : w.rangeAt b o cs)
    (hu : (P.underlying ty).map (·.isRow) = some true) (hi : (P.info? ty).map (·.size) = some cs.length)
    (h : wpList P ops Q rest (a.put op.dst (.agg cs.toArray)) w) : wpList P ops Q (op :: rest) a w := by
  cases hq : P.underlying ty with
  | none => simp [hq] at hu
  | some d => exact wpList_load_mid hgd ty x ho b o hx cs d hc hq (by simpa [hq] using hu) hi h
end Go.Proofs.YtchlioikkhnidaaGreat
