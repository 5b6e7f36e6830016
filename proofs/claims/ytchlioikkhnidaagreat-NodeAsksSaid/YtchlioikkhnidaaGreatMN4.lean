/-
  The program's node: what it is in memory, and how its parts turn one by one.
-/
import Derived.Test.YtchlioikkhnidaaGreatMN3
import Derived.Test.YtchlioikkhnidaaGreatMK
import Derived.Deep.RegionLaw
import Derived.BigRegion
import Derived.Deep.LoopGhost
import Derived.Deep.CutBlock
import Derived.BigQuiet
set_option linter.unusedVariables false
set_option linter.unusedSimpArgs false
namespace Go.Proofs.YtchlioikkhnidaaGreat
open Go.RowKit Go.Sort Go.ChangeShapes Go.WideShapes Go.ChangeAt
open Go.ChangeMaps (setBlock)
set_option linter.unusedVariables false
set_option linter.unusedSimpArgs false

theorem tyIO : MapTy Tryz.prog 88 3 4 (.bool false) := ⟨Tryz.underlying88, Tryz.underlying3, fun _ => by kernel_rfl⟩
def BoolMap (f : Int → Bool) (g : Int → Option Value) : Prop := ∀ k, (g k).getD (.bool false) = .bool (f k)
theorem BoolMap.upd {f : Int → Bool} {g : Int → Option Value} (h : BoolMap f g) (k : Int) (v : Bool) : BoolMap (fun j => if j = k then v else f j) (upd g k (.bool v)) := by
  intro j
  unfold YtchlioikkhnidaaGreat.upd
  split
  · rename_i e; simp [e]
  · rename_i e; simp [e, h j]
theorem BoolMap.del {f : Int → Bool} {g : Int → Option Value} (h : BoolMap f g) (k : Int) : BoolMap (fun j => if j = k then false else f j) (del g k) := by
  intro j
  unfold YtchlioikkhnidaaGreat.del
  split
  · rename_i e; simp [e]
  · rename_i e; simp [e, h j]
theorem BoolMap.empty : BoolMap (fun _ => false) (fun _ => none) := fun _ => rfl

structure NAddr where
  p : Nat
  lp : Nat
  kp : Nat
  ab : Nat
  xb : Nat
  cp : Nat
  am : Nat
  tm : Nat
def NAddr.list (a : NAddr) : List Nat := [a.p, a.kp, a.ab, a.xb, a.cp, a.am, a.tm]
def nFp (a : NAddr) (FC : Nat → Prop) : Nat → Prop := fun j => j ∈ a.list ∨ FC j
def nCells (a : NAddr) (c : Config) (id : Int) : Array Value :=
  #[.int .i64 c.nodes, .int .i64 c.blocks, .int .i64 c.tokens, .int .i64 c.sets, .int .i64 c.ways, .int .i64 c.cap, .int .i64 c.wait, .int .i64 c.tries, .int .i64 c.policy, .int .i64 id,
    .pointer (some ⟨a.lp, 0, none⟩), .pointer (some ⟨a.kp, 0, none⟩), .pointer (some ⟨a.cp, 0, none⟩), .map (some a.am), .map (some a.tm)]
/-- What holds of a node always. -/
structure Node.Sane (n : Node) : Prop where
  c : n.c.Fine
  id : 0 ≤ n.id ∧ n.id < n.c.nodes
  wait : n.cpu.wait = n.c.wait
  tries : n.cpu.tries = n.c.tries
  block : n.cpu.busy = true → 0 ≤ n.cpu.op.block ∧ n.cpu.op.block < n.c.blocks
structure NodeIn (w : World) (a : NAddr) (n : Node) (FC : Nat → Prop) : Prop where
  at_ : ob w a.p = some (.cells (nCells a n.c n.id) 90 (0, 0))
  cache : CacheAt w a.lp n.cache FC
  table : TableAt w a.kp a.ab a.xb n.table
  cpu : ProcAt w a.cp n.cpu
  asked : ∃ o f, ob w a.am = some o ∧ MapObj o f ∧ BoolMap n.asked f
  told : ∃ o f, ob w a.tm = some o ∧ MapObj o f ∧ IntMap n.told f
  nodup : a.list.Nodup
  apart : ∀ j ∈ a.list, ¬ FC j
  sane : n.Sane
section
variable {w w' w'' : World} {a : NAddr} {n : Node} {FC FC' : Nat → Prop}
theorem NodeIn.lt (h : NodeIn w a n FC) : ∀ j, nFp a FC j → j < w.heap.size := by
  rintro j (hj | hj)
  · obtain ⟨o, f, h1, _⟩ := h.asked
    obtain ⟨o2, f2, h2, _⟩ := h.told
    obtain ⟨l0, l1, l2⟩ := h.table.lt
    simp only [NAddr.list, List.mem_cons, List.not_mem_nil, or_false] at hj
    rcases hj with rfl | rfl | rfl | rfl | rfl | rfl | rfl
    · exact ob_lt h.at_
    · exact l0
    · exact l1
    · exact l2
    · exact h.cpu.lt
    · exact ob_lt h1
    · exact ob_lt h2
  · exact h.cache.lt hj
theorem NodeIn.chg {S : Nat → Prop} (h : NodeIn w a n FC) (hc : Chg S w w') (hn : ∀ j, nFp a FC j → ¬ S j) : NodeIn w' a n FC := by
  have hm : ∀ j, j ∈ a.list → ¬ S j := fun j hj => hn j (.inl hj)
  obtain ⟨o, f, h1, h2⟩ := h.asked
  obtain ⟨o', f', h1', h2'⟩ := h.told
  exact ⟨hc.ob h.at_ (hm _ (by simp [NAddr.list])), h.cache.chg hc fun j hj => hn j (.inr hj), h.table.chg hc (hm _ (by simp [NAddr.list])) (hm _ (by simp [NAddr.list])) (hm _ (by simp [NAddr.list])), h.cpu.chg hc (hm _ (by simp [NAddr.list])),
    ⟨o, f, hc.ob h1 (hm _ (by simp [NAddr.list])), h2⟩, ⟨o', f', hc.ob h1' (hm _ (by simp [NAddr.list])), h2'⟩, h.nodup, h.apart, h.sane⟩
theorem NodeIn.below (h : NodeIn w a n FC) (hb : Below w.heap.size w w') : NodeIn w' a n FC := h.chg (S := fun _ => False) (Chg.of_below hb) fun _ _ h => h

/-- Its cache turns. -/
theorem NodeIn.cacheL (h : NodeIn w a n FC) {c' : CacheM} (h1 : CacheAt w' a.lp c' FC') (mv : Moves w w' FC FC') : NodeIn w' a { n with cache := c' } FC' ∧ Moves w w' (nFp a FC) (nFp a FC') := by
  have hlt := h.lt
  have hm : ∀ j, j ∈ a.list → ¬ FC j := h.apart
  obtain ⟨o, f, g1, g2⟩ := h.asked
  obtain ⟨o', f', g1', g2'⟩ := h.told
  have hc := mv.chg
  refine ⟨⟨hc.ob h.at_ (hm _ (by simp [NAddr.list])), h1, h.table.chg hc (hm _ (by simp [NAddr.list])) (hm _ (by simp [NAddr.list])) (hm _ (by simp [NAddr.list])), h.cpu.chg hc (hm _ (by simp [NAddr.list])),
    ⟨o, f, hc.ob g1 (hm _ (by simp [NAddr.list])), g2⟩, ⟨o', f', hc.ob g1' (hm _ (by simp [NAddr.list])), g2'⟩, h.nodup, fun j hj hf => ?_, ⟨h.sane.c, h.sane.id, h.sane.wait, h.sane.tries, h.sane.block⟩⟩, hc.mono fun j _ hj => .inr hj, fun j hj => ?_⟩
  · rcases mv.fresh j hf with h2 | h2
    · exact hm j hj h2
    · have := hlt j (.inl hj); omega
  · rcases hj with hj | hj
    · exact .inl (.inl hj)
    · rcases mv.fresh j hj with h2 | h2
      · exact .inl (.inr h2)
      · exact .inr h2
theorem NodeIn.own {S : Nat → Prop} (h : NodeIn w a n FC) (hc : Chg S w w') (hS : ∀ j, S j → j ∈ a.list) : ∀ j, nFp a FC j → S j → j ∈ a.list := fun j _ hs => hS j hs
/-- Its table turns. -/
theorem NodeIn.tableL (h : NodeIn w a n FC) {t' : Table} (h1 : TableAt w' a.kp a.ab a.xb t') (hc : Chg (fun j => j = a.ab ∨ j = a.xb) w w') : NodeIn w' a { n with table := t' } FC ∧ Moves w w' (nFp a FC) (nFp a FC) := by
  have hnd := h.nodup
  simp only [NAddr.list, List.nodup_cons, List.mem_cons, List.not_mem_nil, or_false, not_or] at hnd
  obtain ⟨⟨n1, n2, n3, n4, n5, n6⟩, ⟨m1, m2, m3, m4, m5⟩, ⟨q1, q2, q3, q4⟩, ⟨r1, r2, r3⟩, ⟨s1, s2⟩, t1, _⟩ := hnd
  obtain ⟨o, f, g1, g2⟩ := h.asked
  obtain ⟨o', f', g1', g2'⟩ := h.told
  refine ⟨⟨hc.ob h.at_ (by rintro (e | e) <;> simp_all), h.cache.chg hc fun j hj => ?_, h1, h.cpu.chg hc (by rintro (e | e) <;> simp_all), ⟨o, f, hc.ob g1 (by rintro (e | e) <;> simp_all), g2⟩, ⟨o', f', hc.ob g1' (by rintro (e | e) <;> simp_all), g2'⟩, h.nodup, h.apart, ⟨h.sane.c, h.sane.id, h.sane.wait, h.sane.tries, h.sane.block⟩⟩, hc.mono fun j _ hj => .inl ?_, fun j hj => .inl hj⟩
  · rintro (rfl | rfl)
    · exact h.apart _ (by simp [NAddr.list]) hj
    · exact h.apart _ (by simp [NAddr.list]) hj
  · rcases hj with rfl | rfl <;> simp [NAddr.list]
/-- Its processor turns. -/
theorem NodeIn.cpuL (h : NodeIn w a n FC) {s : Proc} (h1 : ProcAt w' a.cp s) (hc : Chg (fun j => j = a.cp) w w') (hs : Node.Sane { n with cpu := s }) : NodeIn w' a { n with cpu := s } FC ∧ Moves w w' (nFp a FC) (nFp a FC) := by
  have hnd := h.nodup
  simp only [NAddr.list, List.nodup_cons, List.mem_cons, List.not_mem_nil, or_false, not_or] at hnd
  obtain ⟨⟨n1, n2, n3, n4, n5, n6⟩, ⟨m1, m2, m3, m4, m5⟩, ⟨q1, q2, q3, q4⟩, ⟨r1, r2, r3⟩, ⟨s1, s2⟩, t1, _⟩ := hnd
  obtain ⟨o, f, g1, g2⟩ := h.asked
  obtain ⟨o', f', g1', g2'⟩ := h.told
  refine ⟨⟨hc.ob h.at_ n4, h.cache.chg hc fun j hj e => ?_, h.table.chg hc m3 q2 r1, h1, ⟨o, f, hc.ob g1 (Ne.symm s1), g2⟩, ⟨o', f', hc.ob g1' (Ne.symm s2), g2'⟩, h.nodup, h.apart, hs⟩, hc.mono fun j _ hj => .inl ?_, fun j hj => .inl hj⟩
  · subst e; exact h.apart _ (by simp [NAddr.list]) hj
  · subst hj; simp [NAddr.list]
/-- What it asked for turns. -/
theorem NodeIn.askedL (h : NodeIn w a n FC) {o : Obj} {f : Int → Option Value} {g : Int → Bool} (h1 : ob w' a.am = some o) (h2 : MapObj o f) (h3 : BoolMap g f) (hc : Chg (fun j => j = a.am) w w') : NodeIn w' a { n with asked := g } FC ∧ Moves w w' (nFp a FC) (nFp a FC) := by
  have hnd := h.nodup
  simp only [NAddr.list, List.nodup_cons, List.mem_cons, List.not_mem_nil, or_false, not_or] at hnd
  obtain ⟨⟨n1, n2, n3, n4, n5, n6⟩, ⟨m1, m2, m3, m4, m5⟩, ⟨q1, q2, q3, q4⟩, ⟨r1, r2, r3⟩, ⟨s1, s2⟩, t1, _⟩ := hnd
  obtain ⟨o', f', g1', g2'⟩ := h.told
  refine ⟨⟨hc.ob h.at_ n5, h.cache.chg hc fun j hj e => ?_, h.table.chg hc m4 q3 r2, h.cpu.chg hc s1, ⟨o, f, h1, h2, h3⟩, ⟨o', f', hc.ob g1' (Ne.symm t1), g2'⟩, h.nodup, h.apart, ⟨h.sane.c, h.sane.id, h.sane.wait, h.sane.tries, h.sane.block⟩⟩, hc.mono fun j _ hj => .inl ?_, fun j hj => .inl hj⟩
  · subst e; exact h.apart _ (by simp [NAddr.list]) hj
  · subst hj; simp [NAddr.list]
/-- Whose ends it told turns. -/
theorem NodeIn.toldL (h : NodeIn w a n FC) {o : Obj} {f : Int → Option Value} {g : Int → Int} (h1 : ob w' a.tm = some o) (h2 : MapObj o f) (h3 : IntMap g f) (hc : Chg (fun j => j = a.tm) w w') : NodeIn w' a { n with told := g } FC ∧ Moves w w' (nFp a FC) (nFp a FC) := by
  have hnd := h.nodup
  simp only [NAddr.list, List.nodup_cons, List.mem_cons, List.not_mem_nil, or_false, not_or] at hnd
  obtain ⟨⟨n1, n2, n3, n4, n5, n6⟩, ⟨m1, m2, m3, m4, m5⟩, ⟨q1, q2, q3, q4⟩, ⟨r1, r2, r3⟩, ⟨s1, s2⟩, t1, _⟩ := hnd
  obtain ⟨o', f', g1', g2'⟩ := h.asked
  refine ⟨⟨hc.ob h.at_ n6, h.cache.chg hc fun j hj e => ?_, h.table.chg hc m5 q4 r3, h.cpu.chg hc s2, ⟨o', f', hc.ob g1' t1, g2'⟩, ⟨o, f, h1, h2, h3⟩, h.nodup, h.apart, ⟨h.sane.c, h.sane.id, h.sane.wait, h.sane.tries, h.sane.block⟩⟩, hc.mono fun j _ hj => .inl ?_, fun j hj => .inl hj⟩
  · subst e; exact h.apart _ (by simp [NAddr.list]) hj
  · subst hj; simp [NAddr.list]
/-- A block beside the node, through a turn of it. -/
theorem Moves.aside {b : Nat} {o : Obj} {F F' : Nat → Prop} (m : Moves w w' F F') (hb : ob w b = some o) (hn : ¬ F b) : ob w' b = some o ∧ ¬ F' b :=
  ⟨m.chg.ob hb hn, fun hf => (m.fresh b hf).elim hn fun h => by have := ob_lt hb; omega⟩
theorem NodeIn.cells (h : NodeIn w a n FC) : w.cell? ⟨a.p, 0, none⟩ = some (.int .i64 n.c.nodes) ∧ w.cell? ⟨a.p, 1, none⟩ = some (.int .i64 n.c.blocks) ∧ w.cell? ⟨a.p, 2, none⟩ = some (.int .i64 n.c.tokens) ∧ w.cell? ⟨a.p, 3, none⟩ = some (.int .i64 n.c.sets) ∧ w.cell? ⟨a.p, 4, none⟩ = some (.int .i64 n.c.ways) ∧
    w.cell? ⟨a.p, 5, none⟩ = some (.int .i64 n.c.cap) ∧ w.cell? ⟨a.p, 6, none⟩ = some (.int .i64 n.c.wait) ∧ w.cell? ⟨a.p, 7, none⟩ = some (.int .i64 n.c.tries) ∧ w.cell? ⟨a.p, 8, none⟩ = some (.int .i64 n.c.policy) ∧ w.cell? ⟨a.p, 9, none⟩ = some (.int .i64 n.id) ∧
    w.cell? ⟨a.p, 10, none⟩ = some (.pointer (some ⟨a.lp, 0, none⟩)) ∧ w.cell? ⟨a.p, 11, none⟩ = some (.pointer (some ⟨a.kp, 0, none⟩)) ∧ w.cell? ⟨a.p, 12, none⟩ = some (.pointer (some ⟨a.cp, 0, none⟩)) ∧ w.cell? ⟨a.p, 13, none⟩ = some (.map (some a.am)) ∧ w.cell? ⟨a.p, 14, none⟩ = some (.map (some a.tm)) ∧ (∀ i, w.frozen? ⟨a.p, i, none⟩ = false) ∧ a.p < w.heap.size :=
  ⟨cell_ob h.at_ 0, cell_ob h.at_ 1, cell_ob h.at_ 2, cell_ob h.at_ 3, cell_ob h.at_ 4, cell_ob h.at_ 5, cell_ob h.at_ 6, cell_ob h.at_ 7, cell_ob h.at_ 8, cell_ob h.at_ 9, cell_ob h.at_ 10, cell_ob h.at_ 11, cell_ob h.at_ 12, cell_ob h.at_ 13, cell_ob h.at_ 14, fun i => frozen_ob h.at_ i, ob_lt h.at_⟩
end
end Go.Proofs.YtchlioikkhnidaaGreat

/-
  The program's node: what it sends, and its small calls.
-/
namespace Go.Proofs.YtchlioikkhnidaaGreat
open Go.RowKit Go.Sort Go.ChangeShapes Go.WideShapes Go.ChangeAt
open Go.ChangeMaps (setBlock)
set_option linter.unusedVariables false
set_option linter.unusedSimpArgs false

/-- What is sent, and is over: a block with two slices of the call's own. -/
structure OutIn (w : World) (q : Nat) (v1 v2 : Value) (L : List Letter) (D : List Done) : Prop where
  at_ : ob w q = some (.cells #[v1, v2] 35 (0, 0))
  letters : OwnSl w 44 11 v1 (L.map Letter.cells)
  done : OwnSl w 60 7 v2 (D.map Done.cells)
def outFp (q : Nat) (v1 v2 : Value) : Nat → Prop := fun j => j = q ∨ v1.ownBlock = some j ∨ v2.ownBlock = some j
section
variable {w w' : World} {q : Nat} {v1 v2 : Value} {L : List Letter} {D : List Done}
theorem OutIn.ne (h : OutIn w q v1 v2 L D) : (∀ j, v1.ownBlock = some j → j ≠ q) ∧ (∀ j, v2.ownBlock = some j → j ≠ q) ∧ ∀ j, v1.ownBlock = some j → v2.ownBlock = some j → False := by
  have h0 := h.at_
  refine ⟨fun j hj e => ?_, fun j hj e => ?_, fun j hj hj' => ?_⟩
  · obtain ⟨c, hc⟩ := h.letters.typed hj
    rw [e, h0] at hc; injection hc with hc; injection hc with _ hc; revert hc; decide
  · obtain ⟨c, hc⟩ := h.done.typed hj
    rw [e, h0] at hc; injection hc with hc; injection hc with _ hc; revert hc; decide
  · obtain ⟨c, hc⟩ := h.letters.typed hj
    obtain ⟨c', hc'⟩ := h.done.typed hj'
    rw [hc] at hc'; injection hc' with hc'; injection hc' with _ hc'; revert hc'; decide
theorem OutIn.lt (h : OutIn w q v1 v2 L D) : ∀ j, outFp q v1 v2 j → j < w.heap.size := by
  rintro j (rfl | hj | hj)
  · exact ob_lt h.at_
  · exact h.letters.lt hj
  · exact h.done.lt hj
theorem OutIn.chg {S : Nat → Prop} (h : OutIn w q v1 v2 L D) (hc : Chg S w w') (hn : ∀ j, outFp q v1 v2 j → ¬ S j) : OutIn w' q v1 v2 L D :=
  ⟨hc.ob h.at_ (hn _ (.inl rfl)), h.letters.chg hc fun j hj => hn j (.inr (.inl hj)), h.done.chg hc fun j hj => hn j (.inr (.inr hj))⟩
theorem OutIn.below (h : OutIn w q v1 v2 L D) (hb : Below w.heap.size w w') : OutIn w' q v1 v2 L D := h.chg (S := fun _ => False) (Chg.of_below hb) fun _ _ h => h

set_option maxHeartbeats 4000000 in
set_option maxRecDepth 20000 in
theorem send_calls (l : Letter) (h : OutIn w q v1 v2 L D) (hl : L.length ≤ 1000000) :
    Calls Tryz.prog 50 #[.pointer (some ⟨q, 0, none⟩), l.val] w fun e w' => e = .returned (.tuple #[]) ∧ ∃ v1', OutIn w' q v1' v2 (L ++ [l]) D ∧ Moves w w' (outFp q v1 v2) (outFp q v1' v2) := by
  have c0 : w.cell? ⟨q, 0, none⟩ = some v1 := cell_ob h.at_ 0
  have f0 : w.frozen? ⟨q, 0, none⟩ = false := frozen_ob h.at_ 0
  have lq := ob_lt h.at_
  have H := Lib.hid h
  obtain ⟨hne1, hne2, hne3⟩ := h.ne
  have NE := Lib.hid hne1
  have hnq : ¬ v1.ownBlock = some q := fun e => hne1 q e rfl
  obtain ⟨A1, n1, cap1, e1⟩ := h.letters.shape
  clear h hne1 hne2 hne3
  subst e1
  simp only [Letter.val, Letter.cells]
  go_enter Tryz.func50, Tryz.ntmps50
  go_wp2_with fail
  go_region_law (first
    | (refine step_append_sl (v := .slice A1 n1 cap1) (xs := L.map Letter.cells) (ys := [l.cells]) rfl _ _ rfl tyLetters rfl rfl (H.out.letters.chg (S := fun _ => False) (by repeat (first | with_reducible exact Chg.refl _ _ | with_reducible exact chg0 | with_reducible refine Chg.drewN ?_ _ | with_reducible refine Chg.drew ?_ | with_reducible refine Chg.alloc ?_ _ | with_reducible refine Chg.setCell ?_ _ _ (by first | (simp; done) | omega | (simp; omega)) | with_reducible refine Chg.setBlock ?_ _ _ (by first | (simp; done) | omega | (simp; omega)) | exact Chg.refl _ _)) (fun _ _ h => h)) (OwnSl.made (e := 44) (c := l.cells.toArray) (b := w.heap.size + 1) (by first | exact ob_alloc_new _ _ _ (by simp) | (rw [ob_drew]; exact ob_alloc_new _ _ _ (by simp)) | (rw [ob_drewN]; exact ob_alloc_new _ _ _ (by simp))) (letters_ok [l]) (by simp) (by simp)).slice (letters_ok [l]) (by simp only [List.length_map, List.length_singleton]; omega) ?_; intro v5 w5 ho hc5 hloc; obtain ⟨A5, n5, cap5, hv5⟩ := ho.shape; subst hv5; have hcc : Chg (fun j => (Value.slice A1 n1 cap1).ownBlock = some j) w w5 := Chg.trans (S' := fun j => (Value.slice A1 n1 cap1).ownBlock = some j) (by repeat (first | with_reducible exact Chg.refl _ _ | with_reducible exact chg0 | with_reducible refine Chg.drewN ?_ _ | with_reducible refine Chg.drew ?_ | with_reducible refine Chg.alloc ?_ _ | with_reducible refine Chg.setCell ?_ _ _ (by first | (simp; done) | omega | (simp; omega)) | with_reducible refine Chg.setBlock ?_ _ _ (by first | (simp; done) | omega | (simp; omega)) | exact Chg.refl _ _)) hc5 (fun _ _ h => h); have c5 : w5.cell? ⟨q, 0, none⟩ = some (Value.slice A1 n1 cap1) := hcc.cell c0 hnq; have f5 : w5.frozen? ⟨q, 0, none⟩ = false := (by rw [hcc.frozen lq hnq]; exact f0))
    | fail)
  all_goals (go_wp2_with fail)
  all_goals go_end0
  all_goals
    have hsz := hcc.size
    have lq5 : q < w5.heap.size := by omega
    have hob5 : ob w5 q = some (.cells #[Value.slice A1 n1 cap1, v2] 35 (0, 0)) := hcc.ob H.out.at_ hnq
    have n5q : ¬ (Value.slice A5 n5 cap5).ownBlock = some q := fun e => by
      rcases hloc with h | h
      · rw [h] at e; exact hnq e
      · rw [h] at e; injection e with e; simp [go_sem] at e; omega
    have n2 : ∀ j, v2.ownBlock = some j → ¬ (Value.slice A1 n1 cap1).ownBlock = some j := fun j hj e => (H.out.ne).2.2 j e hj
    refine ⟨rfl, Value.slice A5 n5 cap5, ⟨by simp [go_sem, hob5, lq5, setAt], ?_, ?_⟩, ?_, ?_⟩
    · rw [List.map_append]
      exact ho.chg (S := fun j => j = q) (by repeat (first | exact Chg.refl _ _ | refine Chg.drewN ?_ _ | refine Chg.drew ?_ | refine Chg.setCell ?_ _ _ (fun _ => rfl))) (fun k hk e => n5q (by rw [← e]; exact hk))
    · exact (H.out.done.chg hcc n2).chg (S := fun j => j = q) (by repeat (first | exact Chg.refl _ _ | refine Chg.drewN ?_ _ | refine Chg.drew ?_ | refine Chg.setCell ?_ _ _ (fun _ => rfl))) (fun k hk e => (H.out.ne).2.1 k hk e)
    · exact (hcc.mono fun j _ h => Or.inr (Or.inl h)).trans (S' := fun j => j = q) (by repeat (first | exact Chg.refl _ _ | refine Chg.drewN ?_ _ | refine Chg.drew ?_ | refine Chg.setCell ?_ _ _ (fun _ => rfl))) (fun j _ e => Or.inl e)
    · rintro j (hj | hj | hj)
      · exact .inl (.inl hj)
      · rcases hloc with h | h
        · rw [h] at hj; exact .inl (.inr (.inl hj))
        · rw [h] at hj; injection hj with hj; right; rw [← hj]; simp [go_sem]; omega
      · exact .inl (.inr (.inr hj))
end
end Go.Proofs.YtchlioikkhnidaaGreat

/-
  The program's node: its requests, letters that go home.
-/
namespace Go.Proofs.YtchlioikkhnidaaGreat
open Go.RowKit Go.Sort Go.ChangeShapes Go.WideShapes Go.ChangeAt
open Go.ChangeMaps (setBlock)
set_option linter.unusedVariables false
set_option linter.unusedSimpArgs false
section
variable {w w' : World} {a : NAddr} {n : Node} {FC : Nat → Prop}
set_option maxHeartbeats 4000000 in
set_option maxRecDepth 20000 in
theorem own_calls (b : Int) (h : NodeIn w a n FC) : Calls Tryz.prog 90 #[.pointer (some ⟨a.p, 0, none⟩), .int .i64 b] w (Pure w (.tuple #[(n.table.act b).val, .bool (n.own b)])) := by
  obtain ⟨c0, c1, c2, c3, c4, c5, c6, c7, c8, c9, c10, c11, c12, c13, c14, cf, cl⟩ := h.cells
  have HT := Lib.hid h.table
  have hown : n.own b = (n.table.on b && decide ((n.table.act b).node = n.id)) := rfl
  have HO := Lib.hid hown
  clear hown h c0 c1 c2 c3 c4 c5 c6 c7 c8 c10 c12 c13 c14
  have hA := fun (W : World) (hW : TableAt W a.kp a.ab a.xb n.table) => Active_calls b hW
  obtain ⟨on, hon⟩ : ∃ x, x = n.table.on b := ⟨_, rfl⟩
  obtain ⟨⟨av, an, aq⟩, hact⟩ : ∃ x, x = n.table.act b := ⟨_, rfl⟩
  rw [← hon, ← hact] at HO
  simp only [← hon, ← hact] at hA
  rw [← hact]
  have HA := Lib.hid hA
  clear hA hon hact
  simp only [Active.val, Active.cells] at HA ⊢
  go_enter Tryz.func90, Tryz.ntmps90
  go_wp2_with fail
  refine (HA.out _ (HT.out.below (Chg.below (by repeat (first | with_reducible exact Chg.refl _ _ | with_reducible exact chg0 | with_reducible refine Chg.drewN ?_ _ | with_reducible refine Chg.drew ?_ | with_reducible refine Chg.alloc ?_ _ | with_reducible refine Chg.setCell ?_ _ _ (by first | (simp; done) | omega | (simp; omega)) | with_reducible refine Chg.setBlock ?_ _ _ (by first | (simp; done) | omega | (simp; omega)) | exact Chg.refl _ _))))).mono ?_
  rintro e w1 ⟨rfl, hb1⟩
  have o0 : ob w1 w.heap.size = some (.cells #[.int .i64 0, .int .i64 0, .int .i64 0] 124 (0, 0)) := (Chg.of_below (S := fun _ => False) hb1).ob (by simp [go_sem]) (fun h => h)
  have chg0 : Chg (fun _ => False) w w1 := Chg.of_below (below_trans (Chg.below (by repeat (first | with_reducible exact Chg.refl _ _ | with_reducible exact chg0 | with_reducible refine Chg.drewN ?_ _ | with_reducible refine Chg.drew ?_ | with_reducible refine Chg.alloc ?_ _ | with_reducible refine Chg.setCell ?_ _ _ (by first | (simp; done) | omega | (simp; omega)) | with_reducible refine Chg.setBlock ?_ _ _ (by first | (simp; done) | omega | (simp; omega)) | exact Chg.refl _ _))) hb1)
  have d9 : w1.cell? ⟨a.p, 9, none⟩ = some (.int .i64 n.id) := chg0.cell c9 (fun h => h)
  have l9 := World.block_lt_of_cell? w1 _ d9
  simp only at l9
  have l0 := ob_lt o0
  obtain ⟨x0, x1, x2, xf⟩ := ob_cells3 o0
  clear hb1 c9 c11 cf cl
  cases on
  · go_wp2_with fail
    go_big_region
    all_goals
      go_wp2_with fail
      (try simp only [Exit.inBlock, Exit.then])
      refine bodyRet2 _ _ rfl rfl (ResIs.row Tryz.underlying124 rfl (by kernel_rfl) rfl (by simp [go_sem, o0, l0, setAt]; exact ⟨rfl, rfl, rfl⟩)) ResIs.tmp ?_
      refine ⟨by rw [HO.out]; rfl, Chg.below (by repeat (first | with_reducible exact Chg.refl _ _ | with_reducible exact chg0 | with_reducible refine Chg.drewN ?_ _ | with_reducible refine Chg.drew ?_ | with_reducible refine Chg.alloc ?_ _ | with_reducible refine Chg.setCell ?_ _ _ (by first | (simp; done) | omega | (simp; omega)) | with_reducible refine Chg.setBlock ?_ _ _ (by first | (simp; done) | omega | (simp; omega)) | exact Chg.refl _ _))⟩
  · by_cases q : an = n.id
    · have q' : (an == n.id) = true := by simpa using q
      have Q := Lib.hid q
      clear q
      go_wp2_with fail
      go_big_region
      all_goals
        go_wp2_with fail
        (try simp only [Exit.inBlock, Exit.then])
        refine bodyRet2 _ _ rfl rfl (ResIs.row Tryz.underlying124 rfl (by kernel_rfl) rfl (by simp [go_sem, o0, l0, setAt]; exact ⟨rfl, rfl, rfl⟩)) ResIs.tmp ?_
        refine ⟨by rw [HO.out]; simp [Q.out], Chg.below (by repeat (first | with_reducible exact Chg.refl _ _ | with_reducible exact chg0 | with_reducible refine Chg.drewN ?_ _ | with_reducible refine Chg.drew ?_ | with_reducible refine Chg.alloc ?_ _ | with_reducible refine Chg.setCell ?_ _ _ (by first | (simp; done) | omega | (simp; omega)) | with_reducible refine Chg.setBlock ?_ _ _ (by first | (simp; done) | omega | (simp; omega)) | exact Chg.refl _ _))⟩
    · have q' : (an == n.id) = false := by simpa using q
      have Q := Lib.hid q
      clear q
      go_wp2_with fail
      go_big_region
      all_goals
        go_wp2_with fail
        (try simp only [Exit.inBlock, Exit.then])
        refine bodyRet2 _ _ rfl rfl (ResIs.row Tryz.underlying124 rfl (by kernel_rfl) rfl (by simp [go_sem, o0, l0, setAt]; exact ⟨rfl, rfl, rfl⟩)) ResIs.tmp ?_
        refine ⟨by rw [HO.out]; simp [Q.out], Chg.below (by repeat (first | with_reducible exact Chg.refl _ _ | with_reducible exact chg0 | with_reducible refine Chg.drewN ?_ _ | with_reducible refine Chg.drew ?_ | with_reducible refine Chg.alloc ?_ _ | with_reducible refine Chg.setCell ?_ _ _ (by first | (simp; done) | omega | (simp; omega)) | with_reducible refine Chg.setBlock ?_ _ _ (by first | (simp; done) | omega | (simp; omega)) | exact Chg.refl _ _))⟩
set_option maxHeartbeats 4000000 in
set_option maxRecDepth 20000 in
theorem other_calls (b : Int) (h : NodeIn w a n FC) : Calls Tryz.prog 86 #[.pointer (some ⟨a.p, 0, none⟩), .int .i64 b] w (Pure w (.tuple #[.int .i64 (n.table.act b).node, .bool (n.other b)])) := by
  obtain ⟨c0, c1, c2, c3, c4, c5, c6, c7, c8, c9, c10, c11, c12, c13, c14, cf, cl⟩ := h.cells
  have HT := Lib.hid h.table
  have hown : n.other b = (n.table.on b && decide ((n.table.act b).node ≠ n.id)) := rfl
  have HO := Lib.hid hown
  clear hown h c0 c1 c2 c3 c4 c5 c6 c7 c8 c10 c12 c13 c14
  have hA := fun (W : World) (hW : TableAt W a.kp a.ab a.xb n.table) => Active_calls b hW
  obtain ⟨on, hon⟩ : ∃ x, x = n.table.on b := ⟨_, rfl⟩
  obtain ⟨⟨av, an, aq⟩, hact⟩ : ∃ x, x = n.table.act b := ⟨_, rfl⟩
  rw [← hon, ← hact] at HO
  simp only [← hon, ← hact] at hA
  rw [← hact]
  have HA := Lib.hid hA
  clear hA hon hact
  simp only [Active.val, Active.cells] at HA ⊢
  go_enter Tryz.func86, Tryz.ntmps86
  go_wp2_with fail
  refine (HA.out _ (HT.out.below (Chg.below (by repeat (first | with_reducible exact Chg.refl _ _ | with_reducible exact chg0 | with_reducible refine Chg.drewN ?_ _ | with_reducible refine Chg.drew ?_ | with_reducible refine Chg.alloc ?_ _ | with_reducible refine Chg.setCell ?_ _ _ (by first | (simp; done) | omega | (simp; omega)) | with_reducible refine Chg.setBlock ?_ _ _ (by first | (simp; done) | omega | (simp; omega)) | exact Chg.refl _ _))))).mono ?_
  rintro e w1 ⟨rfl, hb1⟩
  have chg0 : Chg (fun _ => False) w w1 := Chg.of_below (below_trans (Chg.below (by repeat (first | with_reducible exact Chg.refl _ _ | with_reducible exact chg0 | with_reducible refine Chg.drewN ?_ _ | with_reducible refine Chg.drew ?_ | with_reducible refine Chg.alloc ?_ _ | with_reducible refine Chg.setCell ?_ _ _ (by first | (simp; done) | omega | (simp; omega)) | with_reducible refine Chg.setBlock ?_ _ _ (by first | (simp; done) | omega | (simp; omega)) | exact Chg.refl _ _))) hb1)
  have d9 : w1.cell? ⟨a.p, 9, none⟩ = some (.int .i64 n.id) := chg0.cell c9 (fun h => h)
  have l9 := World.block_lt_of_cell? w1 _ d9
  simp only at l9
  clear hb1 c9 c11 cf cl
  cases on
  · go_wp2_with fail
    go_quiet (fail)
    go_wp2_with fail
    go_ret2
    exact ⟨by rw [HO.out]; rfl, Chg.below (by repeat (first | with_reducible exact Chg.refl _ _ | with_reducible exact chg0 | with_reducible refine Chg.drewN ?_ _ | with_reducible refine Chg.drew ?_ | with_reducible refine Chg.alloc ?_ _ | with_reducible refine Chg.setCell ?_ _ _ (by first | (simp; done) | omega | (simp; omega)) | with_reducible refine Chg.setBlock ?_ _ _ (by first | (simp; done) | omega | (simp; omega)) | exact Chg.refl _ _))⟩
  · by_cases q : an = n.id
    · have q' : (an != n.id) = false := by simpa using q
      have Q := Lib.hid q
      clear q
      go_wp2_with fail
      go_quiet (fail)
      go_wp2_with fail
      go_ret2
      exact ⟨by rw [HO.out]; simp [Q.out], Chg.below (by repeat (first | with_reducible exact Chg.refl _ _ | with_reducible exact chg0 | with_reducible refine Chg.drewN ?_ _ | with_reducible refine Chg.drew ?_ | with_reducible refine Chg.alloc ?_ _ | with_reducible refine Chg.setCell ?_ _ _ (by first | (simp; done) | omega | (simp; omega)) | with_reducible refine Chg.setBlock ?_ _ _ (by first | (simp; done) | omega | (simp; omega)) | exact Chg.refl _ _))⟩
    · have q' : (an != n.id) = true := by simpa using q
      have Q := Lib.hid q
      clear q
      go_wp2_with fail
      go_quiet (fail)
      go_wp2_with fail
      go_ret2
      exact ⟨by rw [HO.out]; simp [Q.out], Chg.below (by repeat (first | with_reducible exact Chg.refl _ _ | with_reducible exact chg0 | with_reducible refine Chg.drewN ?_ _ | with_reducible refine Chg.drew ?_ | with_reducible refine Chg.alloc ?_ _ | with_reducible refine Chg.setCell ?_ _ _ (by first | (simp; done) | omega | (simp; omega)) | with_reducible refine Chg.setBlock ?_ _ _ (by first | (simp; done) | omega | (simp; omega)) | exact Chg.refl _ _))⟩
set_option maxHeartbeats 4000000 in
set_option maxRecDepth 20000 in
theorem home_calls (kind block seq : Int) (h : NodeIn w a n FC) : Calls Tryz.prog 51 #[.pointer (some ⟨a.p, 0, none⟩), .int .i64 kind, .int .i64 block, .int .i64 seq] w (Pure w (n.home kind block seq).val) := by
  obtain ⟨c0, c1, c2, c3, c4, c5, c6, c7, c8, c9, c10, c11, c12, c13, c14, cf, cl⟩ := h.cells
  clear h c1 c2 c3 c4 c5 c6 c7 c8 c10 c11 c12 c13 c14
  simp only [Node.home, Letter.plain, Bundle.none, Letter.val, Letter.cells]
  go_enter Tryz.func51, Tryz.ntmps51
  go_wp2_with fail
  go_big_region
  all_goals
    go_wp2_with fail
    (try simp only [Exit.inBlock, Exit.then])
    refine bodyRet1 _ rfl rfl (ResIs.row Tryz.underlying44 rfl (by kernel_rfl) rfl (by simp [go_sem]; exact ⟨rfl, rfl, rfl⟩)) ?_
    exact pure_of rfl (by repeat (first | with_reducible exact Chg.refl _ _ | with_reducible exact chg0 | with_reducible refine Chg.drewN ?_ _ | with_reducible refine Chg.drew ?_ | with_reducible refine Chg.alloc ?_ _ | with_reducible refine Chg.setCell ?_ _ _ (by first | (simp; done) | omega | (simp; omega)) | with_reducible refine Chg.setBlock ?_ _ _ (by first | (simp; done) | omega | (simp; omega)) | exact Chg.refl _ _))
end
end Go.Proofs.YtchlioikkhnidaaGreat

/-
  The program's node with what it sends; the end of a request of its own.
-/
namespace Go.Proofs.YtchlioikkhnidaaGreat
open Go.RowKit Go.Sort Go.ChangeShapes Go.WideShapes Go.ChangeAt
open Go.ChangeMaps (setBlock)
set_option linter.unusedVariables false
set_option linter.unusedSimpArgs false

structure NO (w : World) (a : NAddr) (n : Node) (FC : Nat → Prop) (q : Nat) (v1 v2 : Value) (L : List Letter) (D : List Done) : Prop where
  node : NodeIn w a n FC
  out : OutIn w q v1 v2 L D
  apart : ∀ j, outFp q v1 v2 j → ¬ nFp a FC j
def noFp (a : NAddr) (FC : Nat → Prop) (q : Nat) (v1 v2 : Value) : Nat → Prop := fun j => nFp a FC j ∨ outFp q v1 v2 j
/-- A node at work: it, what it sends, what is over; F: all their blocks. -/
def Run (w : World) (a : NAddr) (q : Nat) (n : Node) (L : List Letter) (D : List Done) (F : Nat → Prop) : Prop :=
  ∃ FC v1 v2, NO w a n FC q v1 v2 L D ∧ F = noFp a FC q v1 v2
section
variable {w w' w'' : World} {a : NAddr} {q : Nat} {n n' : Node} {L L' : List Letter} {D D' : List Done} {F F' FC : Nat → Prop} {v1 v2 : Value}
theorem Run.lt (h : Run w a q n L D F) : ∀ j, F j → j < w.heap.size := by
  obtain ⟨FC, v1, v2, h, rfl⟩ := h
  rintro j (hj | hj)
  · exact h.node.lt j hj
  · exact h.out.lt j hj
theorem Run.chg {S : Nat → Prop} (h : Run w a q n L D F) (hc : Chg S w w') (hn : ∀ j, F j → ¬ S j) : Run w' a q n L D F := by
  obtain ⟨FC, v1, v2, h, rfl⟩ := h
  exact ⟨FC, v1, v2, ⟨h.node.chg hc fun j hj => hn j (.inl hj), h.out.chg hc fun j hj => hn j (.inr hj), h.apart⟩, rfl⟩
theorem Run.below (h : Run w a q n L D F) (hb : Below w.heap.size w w') : Run w' a q n L D F := h.chg (S := fun _ => False) (Chg.of_below hb) fun _ _ h => h
theorem Run.node (h : Run w a q n L D F) : ∃ FC, NodeIn w a n FC ∧ (∀ j, nFp a FC j → F j) ∧ ∀ w' n' FC', NodeIn w' a n' FC' → Moves w w' (nFp a FC) (nFp a FC') → ∃ F', Run w' a q n' L D F' ∧ Moves w w' F F' := by
  obtain ⟨FC, v1, v2, h, rfl⟩ := h
  refine ⟨FC, h.node, fun _ h => .inl h, fun w' n' FC' h1 mv => ⟨_, ⟨FC', v1, v2, ⟨h1, h.out.chg mv.chg fun j hj hf => h.apart j hj hf, fun j hj hf => ?_⟩, rfl⟩, mv.chg.mono fun _ _ h => .inl h, fun j hj => ?_⟩⟩
  · rcases mv.fresh j hf with h2 | h2
    · exact h.apart j hj h2
    · have := h.out.lt j hj; omega
  · rcases hj with hj | hj
    · exact (mv.fresh j hj).imp .inl id
    · exact .inl (.inr hj)
theorem Run.out (h : Run w a q n L D F) : ∃ v1 v2, OutIn w q v1 v2 L D ∧ (∀ j, outFp q v1 v2 j → F j) ∧ ∀ w' v1' v2' L' D', OutIn w' q v1' v2' L' D' → Moves w w' (outFp q v1 v2) (outFp q v1' v2') → ∃ F', Run w' a q n L' D' F' ∧ Moves w w' F F' := by
  obtain ⟨FC, v1, v2, h, rfl⟩ := h
  refine ⟨v1, v2, h.out, fun _ h => .inr h, fun w' v1' v2' L' D' h1 mv => ⟨_, ⟨FC, v1', v2', ⟨h.node.chg mv.chg fun j hj hf => h.apart j hf hj, h1, fun j hj hf => ?_⟩, rfl⟩, mv.chg.mono fun _ _ h => .inr h, fun j hj => ?_⟩⟩
  · rcases mv.fresh j hj with h2 | h2
    · exact h.apart j h2 hf
    · have := h.node.lt j hf; omega
  · rcases hj with hj | hj
    · exact .inl (.inl hj)
    · exact (mv.fresh j hj).imp .inr id
theorem Run.send (l : Letter) (h : Run w a q n L D F) (hl : L.length ≤ 1000000) :
    Calls Tryz.prog 50 #[.pointer (some ⟨q, 0, none⟩), l.val] w fun e w' => e = .returned (.tuple #[]) ∧ ∃ F', Run w' a q n (L ++ [l]) D F' ∧ Moves w w' F F' := by
  obtain ⟨v1, v2, h1, _, h3⟩ := h.out
  exact (send_calls l h1 hl).mono fun e w' ⟨he, v1', g1, g2⟩ => ⟨he, h3 _ _ _ _ _ g1 g2⟩

theorem NodeIn.endPut {W Wf : World} {o1 o2 : Obj} {f1 f2 : Int → Option Value} {g1 : Int → Int} {g2 : Int → Bool} (h : NodeIn w a n FC) (hB : Chg (fun _ => False) (setBlock (setBlock W a.tm o1) a.am o2) Wf) (h1 : MapObj o1 f1) (i1 : IntMap g1 f1) (h2 : MapObj o2 f2) (i2 : BoolMap g2 f2) (hA : Chg (fun _ => False) w W) :
    NodeIn Wf a { n with told := g1, asked := g2 } FC ∧ Moves w Wf (nFp a FC) (nFp a FC) := by
  have hW := h.below hA.below
  have t1 := hW.lt a.tm (.inl (by simp [NAddr.list]))
  have t2 := hW.lt a.am (.inl (by simp [NAddr.list]))
  obtain ⟨hn1, m1⟩ := hW.toldL (w' := setBlock W a.tm o1) (ob_setBlock_lt _ _ _ t1) h1 i1 ((Chg.refl _ _).setBlock _ _ fun _ => rfl)
  obtain ⟨hn2, m2⟩ := hn1.askedL (w' := setBlock (setBlock W a.tm o1) a.am o2) (ob_setBlock_lt _ _ _ (by rw [size_setBlock]; exact t2)) h2 i2 ((Chg.refl _ _).setBlock _ _ fun _ => rfl)
  exact ⟨hn2.below hB.below, (Moves.none hA).trans (m1.trans (m2.trans (Moves.none hB)))⟩

set_option maxHeartbeats 8000000 in
set_option maxRecDepth 20000 in
theorem end_node_calls (b : Int) (h : Run w a q n L D F) (hl : L.length ≤ 1000000) :
    Calls Tryz.prog 80 #[.pointer (some ⟨a.p, 0, none⟩), .int .i64 b, .pointer (some ⟨q, 0, none⟩)] w fun e w' => e = .returned (.tuple #[]) ∧ ∃ F', Run w' a q (n.endL b).1 (L ++ (n.endL b).2) D F' ∧ Moves w w' F F' := by
  have H := Lib.hid h
  obtain ⟨FC, hN, hNF, hNL⟩ := h.node
  have HN := Lib.hid hN
  have hend : n.endL b = if n.own b = false ∨ (n.table.act b).seq ≤ n.told b then (n, []) else ({ n with told := fun j => if j = b then (n.table.act b).seq else n.told j, asked := fun j => if j = b then false else n.asked j }, [n.home 5 b (n.table.act b).seq]) := rfl
  have HE := Lib.hid hend
  have HF := Lib.hid h.lt
  clear h hend hNF hNL hN
  go_enter Tryz.func80, Tryz.ntmps80
  go_wp2_with fail
  refine (own_calls b (HN.out.below (Chg.below (by repeat (first | with_reducible exact Chg.refl _ _ | with_reducible exact chg0 | with_reducible refine Chg.drewN ?_ _ | with_reducible refine Chg.drew ?_ | with_reducible refine Chg.alloc ?_ _ | with_reducible refine Chg.setCell ?_ _ _ (by first | (simp; done) | omega | (simp; omega)) | with_reducible refine Chg.setBlock ?_ _ _ (by first | (simp; done) | omega | (simp; omega)) | exact Chg.refl _ _))))).mono ?_
  rintro e w1 ⟨rfl, hb1⟩
  have bw1 : Below w.heap.size w w1 := below_trans (Chg.below (by repeat (first | with_reducible exact Chg.refl _ _ | with_reducible exact chg0 | with_reducible refine Chg.drewN ?_ _ | with_reducible refine Chg.drew ?_ | with_reducible refine Chg.alloc ?_ _ | with_reducible refine Chg.setCell ?_ _ _ (by first | (simp; done) | omega | (simp; omega)) | with_reducible refine Chg.setBlock ?_ _ _ (by first | (simp; done) | omega | (simp; omega)) | exact Chg.refl _ _))) hb1
  have BW := Lib.hid bw1
  obtain ⟨o, f, hm, hmo, him⟩ := (HN.out.below bw1).told
  obtain ⟨c0, c1, c2, c3, c4, c5, c6, c7, c8, c9, c10, c11, c12, c13, c14, cf, cl⟩ := (HN.out.below bw1).cells
  have ltm := ob_lt hm
  obtain ⟨td, htd⟩ : ∃ x, x = n.told b := ⟨_, rfl⟩
  have hlk : ∀ W : World, ob W a.tm = some o → (Instr.lookup 62 (.map (some a.tm)) (.int .i64 b) false).run Tryz.prog W = .ok (.int .i64 td) W := fun W hW => by
    rw [hmo.lookup tyII b _ W hW, him, htd]
  obtain ⟨on, hon⟩ : ∃ x, x = n.own b := ⟨_, rfl⟩
  obtain ⟨⟨av, an, aq⟩, hact⟩ : ∃ x, x = n.table.act b := ⟨_, rfl⟩
  rw [← hact, ← hon]
  have hE := HE.out
  rw [← hon, ← htd, ← hact] at hE
  replace HE := Lib.hid hE
  simp only [Active.val, Active.cells]
  clear hE hact hon htd hmo him hb1 bw1
  cases on
  · go_wp2_with fail
    go_quiet (fail)
    go_wp2_with fail
    refine bodyPost_ret (v := .tuple #[]) (results_none rfl _ _ _) rfl ?_
    rw [HE.out, if_pos (.inl (by simp))]
    exact ⟨rfl, F, by simpa using H.out.below (below_trans BW.out (Chg.below (by repeat (first | with_reducible exact Chg.refl _ _ | with_reducible exact chg0 | with_reducible refine Chg.drewN ?_ _ | with_reducible refine Chg.drew ?_ | with_reducible refine Chg.alloc ?_ _ | with_reducible refine Chg.setCell ?_ _ _ (by first | (simp; done) | omega | (simp; omega)) | with_reducible refine Chg.setBlock ?_ _ _ (by first | (simp; done) | omega | (simp; omega)) | exact Chg.refl _ _)))), Moves.none ((Chg.of_below BW.out).trans (S' := fun _ => False) (by repeat (first | with_reducible exact Chg.refl _ _ | with_reducible exact chg0 | with_reducible refine Chg.drewN ?_ _ | with_reducible refine Chg.drew ?_ | with_reducible refine Chg.alloc ?_ _ | with_reducible refine Chg.setCell ?_ _ _ (by first | (simp; done) | omega | (simp; omega)) | with_reducible refine Chg.setBlock ?_ _ _ (by first | (simp; done) | omega | (simp; omega)) | exact Chg.refl _ _)) (fun _ _ h => h))⟩
  · by_cases q1 : aq ≤ td
    · have q1' : decide (aq ≤ td) = true := by simpa using q1
      have Q1 := Lib.hid q1
      clear q1
      go_wp2_with fail
      go_quiet (fail)
      go_wp2_with fail
      refine bodyPost_ret (v := .tuple #[]) (results_none rfl _ _ _) rfl ?_
      rw [HE.out, if_pos (.inr Q1.out)]
      exact ⟨rfl, F, by simpa using H.out.below (below_trans BW.out (Chg.below (by repeat (first | with_reducible exact Chg.refl _ _ | with_reducible exact chg0 | with_reducible refine Chg.drewN ?_ _ | with_reducible refine Chg.drew ?_ | with_reducible refine Chg.alloc ?_ _ | with_reducible refine Chg.setCell ?_ _ _ (by first | (simp; done) | omega | (simp; omega)) | with_reducible refine Chg.setBlock ?_ _ _ (by first | (simp; done) | omega | (simp; omega)) | exact Chg.refl _ _)))), Moves.none ((Chg.of_below BW.out).trans (S' := fun _ => False) (by repeat (first | with_reducible exact Chg.refl _ _ | with_reducible exact chg0 | with_reducible refine Chg.drewN ?_ _ | with_reducible refine Chg.drew ?_ | with_reducible refine Chg.alloc ?_ _ | with_reducible refine Chg.setCell ?_ _ _ (by first | (simp; done) | omega | (simp; omega)) | with_reducible refine Chg.setBlock ?_ _ _ (by first | (simp; done) | omega | (simp; omega)) | exact Chg.refl _ _)) (fun _ _ h => h))⟩
    · have q1' : decide (aq ≤ td) = false := by simpa using q1
      have Q1 := Lib.hid q1
      clear q1
      go_wp2_with fail
      go_quiet (fail)
      go_wp2_with fail
      refine (home_calls 5 b aq ((HN.out.below BW.out).below (Chg.below (by repeat (first | with_reducible exact Chg.refl _ _ | with_reducible exact chg0 | with_reducible refine Chg.drewN ?_ _ | with_reducible refine Chg.drew ?_ | with_reducible refine Chg.alloc ?_ _ | with_reducible refine Chg.setCell ?_ _ _ (by first | (simp; done) | omega | (simp; omega)) | with_reducible refine Chg.setBlock ?_ _ _ (by first | (simp; done) | omega | (simp; omega)) | exact Chg.refl _ _))))).mono ?_
      rintro e w2 ⟨rfl, hb2⟩
      have hb12 : Below w1.heap.size w1 w2 := below_trans (Chg.below (by repeat (first | with_reducible exact Chg.refl _ _ | with_reducible exact chg0 | with_reducible refine Chg.drewN ?_ _ | with_reducible refine Chg.drew ?_ | with_reducible refine Chg.alloc ?_ _ | with_reducible refine Chg.setCell ?_ _ _ (by first | (simp; done) | omega | (simp; omega)) | with_reducible refine Chg.setBlock ?_ _ _ (by first | (simp; done) | omega | (simp; omega)) | exact Chg.refl _ _))) hb2
      have o2 : ob w2 w1.heap.size = some (.cells #[.int .i64 av, .int .i64 an, .int .i64 aq] 124 (0, 0)) := (Chg.of_below (S := fun _ => False) hb2).ob (by simp [go_sem]) (fun h => h)
      have H2 := Lib.hid (H.out.below (below_trans BW.out hb12))
      have nF : ¬ F w1.heap.size := fun hf => by have := HF.out _ hf; have := BW.out.size; omega
      clear hb2 c0 c1 c2 c3 c4 c5 c6 c7 c8 c9 c10 c11 c12 c13 c14 cf cl hm hlk ltm
      obtain ⟨x0, x1, x2, xf⟩ := ob_cells3 o2
      have lo2 := ob_lt o2
      obtain ⟨hl', hhl⟩ : ∃ x, x = n.home 5 b aq := ⟨_, rfl⟩
      rw [← hhl]
      have hE := HE.out
      rw [if_neg (by simp [Q1.out]), ← hhl] at hE
      replace HE := Lib.hid hE
      clear hE hhl
      simp only [Letter.val, Letter.cells]
      go_wp2_with fail
      refine (Run.send hl' (H2.out.below (Chg.below (by repeat (first | with_reducible exact Chg.refl _ _ | with_reducible exact chg0 | with_reducible refine Chg.drewN ?_ _ | with_reducible refine Chg.drew ?_ | with_reducible refine Chg.alloc ?_ _ | with_reducible refine Chg.setCell ?_ _ _ (by first | (simp; done) | omega | (simp; omega)) | with_reducible refine Chg.setBlock ?_ _ _ (by first | (simp; done) | omega | (simp; omega)) | exact Chg.refl _ _)))) hl).mono ?_
      rintro e w3 ⟨rfl, F3, hR3, m3⟩
      have o3 : ob w3 w1.heap.size = some (.cells #[.int .i64 av, .int .i64 an, .int .i64 aq] 124 (0, 0)) := m3.chg.ob (by first | exact o2 | simp [go_sem, o2, lo2]) nF
      have M3 := Lib.hid (Moves.trans (F1 := F) (Moves.none ((Chg.of_below (below_trans BW.out hb12)).trans (S' := fun _ => False) (by repeat (first | with_reducible exact Chg.refl _ _ | with_reducible exact chg0 | with_reducible refine Chg.drewN ?_ _ | with_reducible refine Chg.drew ?_ | with_reducible refine Chg.alloc ?_ _ | with_reducible refine Chg.setCell ?_ _ _ (by first | (simp; done) | omega | (simp; omega)) | with_reducible refine Chg.setBlock ?_ _ _ (by first | (simp; done) | omega | (simp; omega)) | exact Chg.refl _ _)) (fun _ _ h => h))) m3)
      obtain ⟨FC3, hN3, hNF3, hNL3⟩ := hR3.node
      have HN3 := Lib.hid hN3
      have HL3 := Lib.hid hNL3
      obtain ⟨ot, ft, hmt, hmot, hit⟩ := hN3.told
      obtain ⟨oa, fa, hma, hmoa, hia⟩ := hN3.asked
      obtain ⟨c0, c1, c2, c3, c4, c5, c6, c7, c8, c9, c10, c11, c12, c13, c14, cf, cl⟩ := hN3.cells
      have hne : a.am ≠ a.tm := by
        have hnd := hN3.nodup
        simp only [NAddr.list, List.nodup_cons, List.mem_cons, List.not_mem_nil, or_false, not_or] at hnd
        exact hnd.2.2.2.2.2.1
      have hpt : a.p ≠ a.tm := by
        have hnd := hN3.nodup
        simp only [NAddr.list, List.nodup_cons, List.mem_cons, List.not_mem_nil, or_false, not_or] at hnd
        exact hnd.1.2.2.2.2.2
      have hbt : w1.heap.size ≠ a.tm := fun e => by
        obtain ⟨_, _, e1, _⟩ := hmot
        rw [e, hmt, e1] at o3; cases o3
      obtain ⟨ot', hot', hupt⟩ := hmot.update tyII b (.int .i64 aq) a.tm
      obtain ⟨oa', hoa', hdel⟩ := hmoa.delete tyIO b a.am
      have HOT := Lib.hid hot'
      have HOA := Lib.hid hoa'
      have HIT := Lib.hid hit
      have HIA := Lib.hid hia
      have ltt := ob_lt hmt
      have lta := ob_lt hma
      clear hR3 hN3 hNL3 hNF3 m3 hmot hmoa hot' hoa' hit hia x0 x1 x2 xf o2 lo2
      obtain ⟨x0, x1, x2, xf⟩ := ob_cells3 o3
      have lo3 := ob_lt o3
      go_wp2_with fail
      go_big_region
      all_goals
        go_wp2_with fail
        go_end0
        obtain ⟨F4, hR4, m4⟩ := HL3.out _ _ _ (NodeIn.endPut HN3.out (by repeat (first | with_reducible exact Chg.refl _ _ | with_reducible exact chg0 | with_reducible refine Chg.drewN ?_ _ | with_reducible refine Chg.drew ?_ | with_reducible refine Chg.alloc ?_ _ | with_reducible refine Chg.setCell ?_ _ _ (by first | (simp; done) | omega | (simp; omega)) | with_reducible refine Chg.setBlock ?_ _ _ (by first | (simp; done) | omega | (simp; omega)) | exact Chg.refl _ _)) HOT.out (HIT.out.upd b aq) HOA.out (HIA.out.del b) (by repeat (first | with_reducible exact Chg.refl _ _ | with_reducible exact chg0 | with_reducible refine Chg.drewN ?_ _ | with_reducible refine Chg.drew ?_ | with_reducible refine Chg.alloc ?_ _ | with_reducible refine Chg.setCell ?_ _ _ (by first | (simp; done) | omega | (simp; omega)) | with_reducible refine Chg.setBlock ?_ _ _ (by first | (simp; done) | omega | (simp; omega)) | exact Chg.refl _ _))).1 (NodeIn.endPut HN3.out (by repeat (first | with_reducible exact Chg.refl _ _ | with_reducible exact chg0 | with_reducible refine Chg.drewN ?_ _ | with_reducible refine Chg.drew ?_ | with_reducible refine Chg.alloc ?_ _ | with_reducible refine Chg.setCell ?_ _ _ (by first | (simp; done) | omega | (simp; omega)) | with_reducible refine Chg.setBlock ?_ _ _ (by first | (simp; done) | omega | (simp; omega)) | exact Chg.refl _ _)) HOT.out (HIT.out.upd b aq) HOA.out (HIA.out.del b) (by repeat (first | with_reducible exact Chg.refl _ _ | with_reducible exact chg0 | with_reducible refine Chg.drewN ?_ _ | with_reducible refine Chg.drew ?_ | with_reducible refine Chg.alloc ?_ _ | with_reducible refine Chg.setCell ?_ _ _ (by first | (simp; done) | omega | (simp; omega)) | with_reducible refine Chg.setBlock ?_ _ _ (by first | (simp; done) | omega | (simp; omega)) | exact Chg.refl _ _))).2
        rw [HE.out]
        exact ⟨rfl, F4, hR4.below (Chg.below (by repeat (first | with_reducible exact Chg.refl _ _ | with_reducible exact chg0 | with_reducible refine Chg.drewN ?_ _ | with_reducible refine Chg.drew ?_ | with_reducible refine Chg.alloc ?_ _ | with_reducible refine Chg.setCell ?_ _ _ (by first | (simp; done) | omega | (simp; omega)) | with_reducible refine Chg.setBlock ?_ _ _ (by first | (simp; done) | omega | (simp; omega)) | exact Chg.refl _ _))), (M3.out.trans m4).trans (Moves.none (by repeat (first | with_reducible exact Chg.refl _ _ | with_reducible exact chg0 | with_reducible refine Chg.drewN ?_ _ | with_reducible refine Chg.drew ?_ | with_reducible refine Chg.alloc ?_ _ | with_reducible refine Chg.setCell ?_ _ _ (by first | (simp; done) | omega | (simp; omega)) | with_reducible refine Chg.setBlock ?_ _ _ (by first | (simp; done) | omega | (simp; omega)) | exact Chg.refl _ _)))⟩
end
end Go.Proofs.YtchlioikkhnidaaGreat
