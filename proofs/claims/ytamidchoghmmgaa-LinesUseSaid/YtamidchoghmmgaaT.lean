/-
  The plain data of the program: what the package api calls Config, Bundle, Letter and so on, as Lean records, and their cells. No program is named.
-/
import Derived.Test.YtamidchoghmmgaaJ
namespace Go.Proofs.Ytamidchoghmmgaa
open Go.RowKit

/-- A number that an int holds. -/
def i64ok (n : Int) : Prop := -9223372036854775808 ≤ n ∧ n ≤ 9223372036854775807

structure Op where
  block : Int
  write : Bool
  value : Int
  deriving DecidableEq, Inhabited
def Op.cells (d : Op) : List Value := [.int .i64 d.block, .bool d.write, .int .i64 d.value]
def Op.val (d : Op) : Value := .agg d.cells.toArray
def Op.ok (d : Op) : Prop := i64ok d.block ∧ i64ok d.value
theorem Op.range {w : World} {b o : Nat} {d : Op} (h : w.rangeAt b o d.cells) : w.cell? ⟨b, o, none⟩ = some (.int .i64 d.block) ∧
    w.cell? ⟨b, o + 1, none⟩ = some (.bool d.write) ∧
    w.cell? ⟨b, o + 2, none⟩ = some (.int .i64 d.value) :=
  ⟨h 0 _ rfl, h 1 _ rfl, h 2 _ rfl⟩

structure Done where
  node : Int
  number : Int
  op : Op
  value : Int
  step : Int
  deriving DecidableEq, Inhabited
def Done.cells (d : Done) : List Value := [.int .i64 d.node, .int .i64 d.number, .int .i64 d.op.block, .bool d.op.write, .int .i64 d.op.value, .int .i64 d.value, .int .i64 d.step]
def Done.val (d : Done) : Value := .agg d.cells.toArray
def Done.ok (d : Done) : Prop := i64ok d.node ∧ i64ok d.number ∧ d.op.ok ∧ i64ok d.value ∧ i64ok d.step
theorem Done.range {w : World} {b o : Nat} {d : Done} (h : w.rangeAt b o d.cells) : w.cell? ⟨b, o, none⟩ = some (.int .i64 d.node) ∧
    w.cell? ⟨b, o + 1, none⟩ = some (.int .i64 d.number) ∧
    w.cell? ⟨b, o + 2, none⟩ = some (.int .i64 d.op.block) ∧
    w.cell? ⟨b, o + 3, none⟩ = some (.bool d.op.write) ∧
    w.cell? ⟨b, o + 4, none⟩ = some (.int .i64 d.op.value) ∧
    w.cell? ⟨b, o + 5, none⟩ = some (.int .i64 d.value) ∧
    w.cell? ⟨b, o + 6, none⟩ = some (.int .i64 d.step) :=
  ⟨h 0 _ rfl, h 1 _ rfl, h 2 _ rfl, h 3 _ rfl, h 4 _ rfl, h 5 _ rfl, h 6 _ rfl⟩

structure Bundle where
  count : Int
  owner : Bool
  has : Bool
  data : Int
  deriving DecidableEq, Inhabited
def Bundle.cells (d : Bundle) : List Value := [.int .i64 d.count, .bool d.owner, .bool d.has, .int .i64 d.data]
def Bundle.val (d : Bundle) : Value := .agg d.cells.toArray
def Bundle.ok (d : Bundle) : Prop := i64ok d.count ∧ i64ok d.data
theorem Bundle.range {w : World} {b o : Nat} {d : Bundle} (h : w.rangeAt b o d.cells) : w.cell? ⟨b, o, none⟩ = some (.int .i64 d.count) ∧
    w.cell? ⟨b, o + 1, none⟩ = some (.bool d.owner) ∧
    w.cell? ⟨b, o + 2, none⟩ = some (.bool d.has) ∧
    w.cell? ⟨b, o + 3, none⟩ = some (.int .i64 d.data) :=
  ⟨h 0 _ rfl, h 1 _ rfl, h 2 _ rfl, h 3 _ rfl⟩

structure Letter where
  kind : Int
  src : Int
  dst : Int
  block : Int
  seq : Int
  who : Int
  write : Bool
  tokens : Bundle
  deriving DecidableEq, Inhabited
def Letter.cells (d : Letter) : List Value := [.int .i64 d.kind, .int .i64 d.src, .int .i64 d.dst, .int .i64 d.block, .int .i64 d.seq, .int .i64 d.who, .bool d.write, .int .i64 d.tokens.count, .bool d.tokens.owner, .bool d.tokens.has, .int .i64 d.tokens.data]
def Letter.val (d : Letter) : Value := .agg d.cells.toArray
def Letter.ok (d : Letter) : Prop := i64ok d.kind ∧ i64ok d.src ∧ i64ok d.dst ∧ i64ok d.block ∧ i64ok d.seq ∧ i64ok d.who ∧ d.tokens.ok
theorem Letter.range {w : World} {b o : Nat} {d : Letter} (h : w.rangeAt b o d.cells) : w.cell? ⟨b, o, none⟩ = some (.int .i64 d.kind) ∧
    w.cell? ⟨b, o + 1, none⟩ = some (.int .i64 d.src) ∧
    w.cell? ⟨b, o + 2, none⟩ = some (.int .i64 d.dst) ∧
    w.cell? ⟨b, o + 3, none⟩ = some (.int .i64 d.block) ∧
    w.cell? ⟨b, o + 4, none⟩ = some (.int .i64 d.seq) ∧
    w.cell? ⟨b, o + 5, none⟩ = some (.int .i64 d.who) ∧
    w.cell? ⟨b, o + 6, none⟩ = some (.bool d.write) ∧
    w.cell? ⟨b, o + 7, none⟩ = some (.int .i64 d.tokens.count) ∧
    w.cell? ⟨b, o + 8, none⟩ = some (.bool d.tokens.owner) ∧
    w.cell? ⟨b, o + 9, none⟩ = some (.bool d.tokens.has) ∧
    w.cell? ⟨b, o + 10, none⟩ = some (.int .i64 d.tokens.data) :=
  ⟨h 0 _ rfl, h 1 _ rfl, h 2 _ rfl, h 3 _ rfl, h 4 _ rfl, h 5 _ rfl, h 6 _ rfl, h 7 _ rfl, h 8 _ rfl, h 9 _ rfl, h 10 _ rfl⟩

structure Entry where
  kind : Int
  a : Int
  b : Int
  c : Int
  d : Int
  deriving DecidableEq, Inhabited
def Entry.cells (d : Entry) : List Value := [.int .i64 d.kind, .int .i64 d.a, .int .i64 d.b, .int .i64 d.c, .int .i64 d.d]
def Entry.val (d : Entry) : Value := .agg d.cells.toArray
def Entry.ok (d : Entry) : Prop := i64ok d.kind ∧ i64ok d.a ∧ i64ok d.b ∧ i64ok d.c ∧ i64ok d.d
theorem Entry.range {w : World} {b o : Nat} {d : Entry} (h : w.rangeAt b o d.cells) : w.cell? ⟨b, o, none⟩ = some (.int .i64 d.kind) ∧
    w.cell? ⟨b, o + 1, none⟩ = some (.int .i64 d.a) ∧
    w.cell? ⟨b, o + 2, none⟩ = some (.int .i64 d.b) ∧
    w.cell? ⟨b, o + 3, none⟩ = some (.int .i64 d.c) ∧
    w.cell? ⟨b, o + 4, none⟩ = some (.int .i64 d.d) :=
  ⟨h 0 _ rfl, h 1 _ rfl, h 2 _ rfl, h 3 _ rfl, h 4 _ rfl⟩

structure Line where
  block : Int
  tokens : Bundle
  deriving DecidableEq, Inhabited
def Line.cells (d : Line) : List Value := [.int .i64 d.block, .int .i64 d.tokens.count, .bool d.tokens.owner, .bool d.tokens.has, .int .i64 d.tokens.data]
def Line.val (d : Line) : Value := .agg d.cells.toArray
def Line.ok (d : Line) : Prop := i64ok d.block ∧ d.tokens.ok
theorem Line.range {w : World} {b o : Nat} {d : Line} (h : w.rangeAt b o d.cells) : w.cell? ⟨b, o, none⟩ = some (.int .i64 d.block) ∧
    w.cell? ⟨b, o + 1, none⟩ = some (.int .i64 d.tokens.count) ∧
    w.cell? ⟨b, o + 2, none⟩ = some (.bool d.tokens.owner) ∧
    w.cell? ⟨b, o + 3, none⟩ = some (.bool d.tokens.has) ∧
    w.cell? ⟨b, o + 4, none⟩ = some (.int .i64 d.tokens.data) :=
  ⟨h 0 _ rfl, h 1 _ rfl, h 2 _ rfl, h 3 _ rfl, h 4 _ rfl⟩

structure Active where
  block : Int
  node : Int
  seq : Int
  deriving DecidableEq, Inhabited
def Active.cells (d : Active) : List Value := [.int .i64 d.block, .int .i64 d.node, .int .i64 d.seq]
def Active.val (d : Active) : Value := .agg d.cells.toArray
def Active.ok (d : Active) : Prop := i64ok d.block ∧ i64ok d.node ∧ i64ok d.seq
theorem Active.range {w : World} {b o : Nat} {d : Active} (h : w.rangeAt b o d.cells) : w.cell? ⟨b, o, none⟩ = some (.int .i64 d.block) ∧
    w.cell? ⟨b, o + 1, none⟩ = some (.int .i64 d.node) ∧
    w.cell? ⟨b, o + 2, none⟩ = some (.int .i64 d.seq) :=
  ⟨h 0 _ rfl, h 1 _ rfl, h 2 _ rfl⟩

structure Config where
  nodes : Int
  blocks : Int
  tokens : Int
  sets : Int
  ways : Int
  cap : Int
  wait : Int
  tries : Int
  policy : Int
  deriving DecidableEq, Inhabited
def Config.cells (d : Config) : List Value := [.int .i64 d.nodes, .int .i64 d.blocks, .int .i64 d.tokens, .int .i64 d.sets, .int .i64 d.ways, .int .i64 d.cap, .int .i64 d.wait, .int .i64 d.tries, .int .i64 d.policy]
def Config.val (d : Config) : Value := .agg d.cells.toArray
def Config.ok (d : Config) : Prop := i64ok d.nodes ∧ i64ok d.blocks ∧ i64ok d.tokens ∧ i64ok d.sets ∧ i64ok d.ways ∧ i64ok d.cap ∧ i64ok d.wait ∧ i64ok d.tries ∧ i64ok d.policy
theorem Config.range {w : World} {b o : Nat} {d : Config} (h : w.rangeAt b o d.cells) : w.cell? ⟨b, o, none⟩ = some (.int .i64 d.nodes) ∧
    w.cell? ⟨b, o + 1, none⟩ = some (.int .i64 d.blocks) ∧
    w.cell? ⟨b, o + 2, none⟩ = some (.int .i64 d.tokens) ∧
    w.cell? ⟨b, o + 3, none⟩ = some (.int .i64 d.sets) ∧
    w.cell? ⟨b, o + 4, none⟩ = some (.int .i64 d.ways) ∧
    w.cell? ⟨b, o + 5, none⟩ = some (.int .i64 d.cap) ∧
    w.cell? ⟨b, o + 6, none⟩ = some (.int .i64 d.wait) ∧
    w.cell? ⟨b, o + 7, none⟩ = some (.int .i64 d.tries) ∧
    w.cell? ⟨b, o + 8, none⟩ = some (.int .i64 d.policy) :=
  ⟨h 0 _ rfl, h 1 _ rfl, h 2 _ rfl, h 3 _ rfl, h 4 _ rfl, h 5 _ rfl, h 6 _ rfl, h 7 _ rfl, h 8 _ rfl⟩

structure Draws where
  d0 : Int
  d1 : Int
  d2 : Int
  deriving DecidableEq, Inhabited
def Draws.cells (d : Draws) : List Value := [.int .i64 d.d0, .int .i64 d.d1, .int .i64 d.d2]
def Draws.val (d : Draws) : Value := .agg d.cells.toArray
def Draws.ok (d : Draws) : Prop := i64ok d.d0 ∧ i64ok d.d1 ∧ i64ok d.d2
theorem Draws.range {w : World} {b o : Nat} {d : Draws} (h : w.rangeAt b o d.cells) : w.cell? ⟨b, o, none⟩ = some (.int .i64 d.d0) ∧
    w.cell? ⟨b, o + 1, none⟩ = some (.int .i64 d.d1) ∧
    w.cell? ⟨b, o + 2, none⟩ = some (.int .i64 d.d2) :=
  ⟨h 0 _ rfl, h 1 _ rfl, h 2 _ rfl⟩

structure Pair where
  p0 : Int
  p1 : Int
  deriving DecidableEq, Inhabited
def Pair.cells (d : Pair) : List Value := [.int .i64 d.p0, .int .i64 d.p1]
def Pair.val (d : Pair) : Value := .agg d.cells.toArray
def Pair.ok (d : Pair) : Prop := i64ok d.p0 ∧ i64ok d.p1
theorem Pair.range {w : World} {b o : Nat} {d : Pair} (h : w.rangeAt b o d.cells) : w.cell? ⟨b, o, none⟩ = some (.int .i64 d.p0) ∧
    w.cell? ⟨b, o + 1, none⟩ = some (.int .i64 d.p1) :=
  ⟨h 0 _ rfl, h 1 _ rfl⟩

structure Flags where
  b0 : Bool
  b1 : Bool
  deriving DecidableEq, Inhabited
def Flags.cells (d : Flags) : List Value := [.bool d.b0, .bool d.b1]
def Flags.val (d : Flags) : Value := .agg d.cells.toArray
def Flags.ok (_ : Flags) : Prop := True
theorem Flags.range {w : World} {b o : Nat} {d : Flags} (h : w.rangeAt b o d.cells) : w.cell? ⟨b, o, none⟩ = some (.bool d.b0) ∧
    w.cell? ⟨b, o + 1, none⟩ = some (.bool d.b1) :=
  ⟨h 0 _ rfl, h 1 _ rfl⟩

structure Act08 where
  kind : Int
  block : Int
  deriving DecidableEq, Inhabited
def Act08.cells (d : Act08) : List Value := [.int .i64 d.kind, .int .i64 d.block]
def Act08.val (d : Act08) : Value := .agg d.cells.toArray
def Act08.ok (d : Act08) : Prop := i64ok d.kind ∧ i64ok d.block
theorem Act08.range {w : World} {b o : Nat} {d : Act08} (h : w.rangeAt b o d.cells) : w.cell? ⟨b, o, none⟩ = some (.int .i64 d.kind) ∧
    w.cell? ⟨b, o + 1, none⟩ = some (.int .i64 d.block) :=
  ⟨h 0 _ rfl, h 1 _ rfl⟩

structure Act09 where
  kind : Int
  block : Int
  count : Int
  pinned : Int
  owner : Bool
  data : Bool
  tokens : Bundle
  op : Op
  deriving DecidableEq, Inhabited
def Act09.cells (d : Act09) : List Value := [.int .i64 d.kind, .int .i64 d.block, .int .i64 d.count, .int .i64 d.pinned, .bool d.owner, .bool d.data, .int .i64 d.tokens.count, .bool d.tokens.owner, .bool d.tokens.has, .int .i64 d.tokens.data, .int .i64 d.op.block, .bool d.op.write, .int .i64 d.op.value]
def Act09.val (d : Act09) : Value := .agg d.cells.toArray
def Act09.ok (d : Act09) : Prop := i64ok d.kind ∧ i64ok d.block ∧ i64ok d.count ∧ i64ok d.pinned ∧ d.tokens.ok ∧ d.op.ok
theorem Act09.range {w : World} {b o : Nat} {d : Act09} (h : w.rangeAt b o d.cells) : w.cell? ⟨b, o, none⟩ = some (.int .i64 d.kind) ∧
    w.cell? ⟨b, o + 1, none⟩ = some (.int .i64 d.block) ∧
    w.cell? ⟨b, o + 2, none⟩ = some (.int .i64 d.count) ∧
    w.cell? ⟨b, o + 3, none⟩ = some (.int .i64 d.pinned) ∧
    w.cell? ⟨b, o + 4, none⟩ = some (.bool d.owner) ∧
    w.cell? ⟨b, o + 5, none⟩ = some (.bool d.data) ∧
    w.cell? ⟨b, o + 6, none⟩ = some (.int .i64 d.tokens.count) ∧
    w.cell? ⟨b, o + 7, none⟩ = some (.bool d.tokens.owner) ∧
    w.cell? ⟨b, o + 8, none⟩ = some (.bool d.tokens.has) ∧
    w.cell? ⟨b, o + 9, none⟩ = some (.int .i64 d.tokens.data) ∧
    w.cell? ⟨b, o + 10, none⟩ = some (.int .i64 d.op.block) ∧
    w.cell? ⟨b, o + 11, none⟩ = some (.bool d.op.write) ∧
    w.cell? ⟨b, o + 12, none⟩ = some (.int .i64 d.op.value) :=
  ⟨h 0 _ rfl, h 1 _ rfl, h 2 _ rfl, h 3 _ rfl, h 4 _ rfl, h 5 _ rfl, h 6 _ rfl, h 7 _ rfl, h 8 _ rfl, h 9 _ rfl, h 10 _ rfl, h 11 _ rfl, h 12 _ rfl⟩

structure Act15 where
  kind : Int
  op : Op
  letter : Letter
  draws : Draws
  deriving DecidableEq, Inhabited
def Act15.cells (d : Act15) : List Value := [.int .i64 d.kind, .int .i64 d.op.block, .bool d.op.write, .int .i64 d.op.value, .int .i64 d.letter.kind, .int .i64 d.letter.src, .int .i64 d.letter.dst, .int .i64 d.letter.block, .int .i64 d.letter.seq, .int .i64 d.letter.who, .bool d.letter.write, .int .i64 d.letter.tokens.count, .bool d.letter.tokens.owner, .bool d.letter.tokens.has, .int .i64 d.letter.tokens.data, .int .i64 d.draws.d0, .int .i64 d.draws.d1, .int .i64 d.draws.d2]
def Act15.val (d : Act15) : Value := .agg d.cells.toArray
def Act15.ok (d : Act15) : Prop := i64ok d.kind ∧ d.op.ok ∧ d.letter.ok ∧ d.draws.ok
theorem Act15.range {w : World} {b o : Nat} {d : Act15} (h : w.rangeAt b o d.cells) : w.cell? ⟨b, o, none⟩ = some (.int .i64 d.kind) ∧
    w.cell? ⟨b, o + 1, none⟩ = some (.int .i64 d.op.block) ∧
    w.cell? ⟨b, o + 2, none⟩ = some (.bool d.op.write) ∧
    w.cell? ⟨b, o + 3, none⟩ = some (.int .i64 d.op.value) ∧
    w.cell? ⟨b, o + 4, none⟩ = some (.int .i64 d.letter.kind) ∧
    w.cell? ⟨b, o + 5, none⟩ = some (.int .i64 d.letter.src) ∧
    w.cell? ⟨b, o + 6, none⟩ = some (.int .i64 d.letter.dst) ∧
    w.cell? ⟨b, o + 7, none⟩ = some (.int .i64 d.letter.block) ∧
    w.cell? ⟨b, o + 8, none⟩ = some (.int .i64 d.letter.seq) ∧
    w.cell? ⟨b, o + 9, none⟩ = some (.int .i64 d.letter.who) ∧
    w.cell? ⟨b, o + 10, none⟩ = some (.bool d.letter.write) ∧
    w.cell? ⟨b, o + 11, none⟩ = some (.int .i64 d.letter.tokens.count) ∧
    w.cell? ⟨b, o + 12, none⟩ = some (.bool d.letter.tokens.owner) ∧
    w.cell? ⟨b, o + 13, none⟩ = some (.bool d.letter.tokens.has) ∧
    w.cell? ⟨b, o + 14, none⟩ = some (.int .i64 d.letter.tokens.data) ∧
    w.cell? ⟨b, o + 15, none⟩ = some (.int .i64 d.draws.d0) ∧
    w.cell? ⟨b, o + 16, none⟩ = some (.int .i64 d.draws.d1) ∧
    w.cell? ⟨b, o + 17, none⟩ = some (.int .i64 d.draws.d2) :=
  ⟨h 0 _ rfl, h 1 _ rfl, h 2 _ rfl, h 3 _ rfl, h 4 _ rfl, h 5 _ rfl, h 6 _ rfl, h 7 _ rfl, h 8 _ rfl, h 9 _ rfl, h 10 _ rfl, h 11 _ rfl, h 12 _ rfl, h 13 _ rfl, h 14 _ rfl, h 15 _ rfl, h 16 _ rfl, h 17 _ rfl⟩

end Go.Proofs.Ytamidchoghmmgaa
