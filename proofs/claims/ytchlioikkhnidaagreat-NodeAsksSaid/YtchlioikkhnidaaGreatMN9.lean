/-
  The program's node: a letter comes.
-/
import Derived.Test.YtchlioikkhnidaaGreatMN8
import Derived.Test.YtchlioikkhnidaaGreatMN2
set_option linter.unusedVariables false
set_option linter.unusedSimpArgs false
namespace Go.Proofs.YtchlioikkhnidaaGreat
open Go.RowKit Go.Sort Go.ChangeShapes Go.WideShapes Go.ChangeAt
open Go.ChangeMaps (setBlock)
set_option linter.unusedVariables false
set_option linter.unusedSimpArgs false
section
variable {w w' w'' : World} {a : NAddr} {q : Nat} {n n' : Node} {L L' : List Letter} {D D' : List Done} {F F' FC : Nat → Prop} {v1 v2 : Value}
theorem tyIF : MapTy Tryz.prog 99 3 98 .nilFunc := ⟨Tryz.underlying99, Tryz.underlying3, fun _ => by kernel_rfl⟩
theorem NodeIn.cOb (h : NodeIn w a n FC) : w.cell? ⟨a.p, 0, none⟩ = some (.int .i64 n.c.nodes) ∧ w.cell? ⟨a.p, 1, none⟩ = some (.int .i64 n.c.blocks) ∧ w.cell? ⟨a.p, 2, none⟩ = some (.int .i64 n.c.tokens) ∧ w.cell? ⟨a.p, 3, none⟩ = some (.int .i64 n.c.sets) ∧ w.cell? ⟨a.p, 4, none⟩ = some (.int .i64 n.c.ways) ∧ w.cell? ⟨a.p, 5, none⟩ = some (.int .i64 n.c.cap) ∧ w.cell? ⟨a.p, 6, none⟩ = some (.int .i64 n.c.wait) ∧ w.cell? ⟨a.p, 7, none⟩ = some (.int .i64 n.c.tries) ∧ w.cell? ⟨a.p, 8, none⟩ = some (.int .i64 n.c.policy) ∧ w.cell? ⟨a.p, 9, none⟩ = some (.int .i64 n.id) := ⟨h.cells.1, h.cells.2.1, h.cells.2.2.1, h.cells.2.2.2.1, h.cells.2.2.2.2.1, h.cells.2.2.2.2.2.1, h.cells.2.2.2.2.2.2.1, h.cells.2.2.2.2.2.2.2.1, h.cells.2.2.2.2.2.2.2.2.1, h.cells.2.2.2.2.2.2.2.2.2.1⟩

set_option maxHeartbeats 8000000 in
set_option maxRecDepth 20000 in
theorem NodeTake_calls (l : Letter) (d : Draws) (h : NodeIn w a n FC) (hb : ∀ b, (n.cache.tok b).count ≤ 900000000000) :
    Calls Tryz.prog 14 #[.pointer (some ⟨a.p, 0, none⟩), l.val, d.val] w fun e w' =>
      ∃ FC' v1 v2, e = .returned (.agg #[v1, v2]) ∧ Sent w w' a (n.take l d).1 FC FC' v1 v2 (n.take l d).2.1 (n.take l d).2.2 := by
  have H := Lib.hid h
  have HF := Lib.hid h.lt
  have HB := Lib.hid hb
  have hset : n.take l d = if l.legal n.c = false ∨ l.dst ≠ n.id then (n, [], []) else if l.kind = 1 then n.tokens l else if l.kind = 2 then ((n.asks l d).1, (n.asks l d).2, []) else if l.kind = 4 then ((n.activate l).1, (n.activate l).2, []) else if l.kind = 6 then ((n.deactivate l).1, (n.deactivate l).2, []) else (n, [], []) := rfl
  have hleg : l.legal n.c = decide (l.err n.c = 0) := rfl
  have hle0 := Letter.err_zero (c := n.c) (l := l)
  have HC := Lib.hid (fun V => LCheck_calls n.c l V)
  simp only [Config.val, Config.cells, Letter.val, Letter.cells] at HC
  obtain ⟨er, her⟩ : ∃ x, x = l.err n.c := ⟨_, rfl⟩
  rw [← her] at hleg hle0 HC
  rw [hleg] at hset
  have HS := Lib.hid hset
  have HLE := Lib.hid hle0
  clear h hset hleg hb hle0 her
  simp only [Letter.val, Letter.cells, Draws.val, Draws.cells]
  go_enter Tryz.func14, Tryz.ntmps14
  go_wp2_with fail
  obtain ⟨W, hW⟩ : ∃ W, W = ((((w.alloc (Obj.cells #[Value.int IntKind.i64 l.kind, Value.int IntKind.i64 l.src, Value.int IntKind.i64 l.dst, Value.int IntKind.i64 l.block, Value.int IntKind.i64 l.seq, Value.int IntKind.i64 l.who, Value.bool l.write, Value.int IntKind.i64 l.tokens.count, Value.bool l.tokens.owner, Value.bool l.tokens.has, Value.int IntKind.i64 l.tokens.data] 44)).alloc (Obj.cells #[Value.int IntKind.i64 d.d0, Value.int IntKind.i64 d.d1, Value.int IntKind.i64 d.d2] 39)).alloc (Obj.cells #[Value.slice none 0 0, Value.slice none 0 0] 35)).alloc (Obj.cells #[Value.slice none 0 0, Value.slice none 0 0] 35)) := ⟨_, rfl⟩
  rw [← hW]
  have bW : Below w.heap.size w W := by rw [hW]; exact Chg.below (by repeat (first | with_reducible exact Chg.refl _ _ | with_reducible exact chg0 | with_reducible refine Chg.drewN ?_ _ | with_reducible refine Chg.drew ?_ | with_reducible refine Chg.alloc ?_ _ | with_reducible refine Chg.setCell ?_ _ _ (by first | (simp; done) | omega | (simp; omega)) | with_reducible refine Chg.setBlock ?_ _ _ (by first | (simp; done) | omega | (simp; omega)) | exact Chg.refl _ _))
  have oL : lOb W w.heap.size l := by rw [hW]; exact lOb.step (w := w.alloc _) (ob_alloc_at _ _) (Chg.below (by repeat (first | with_reducible exact Chg.refl _ _ | with_reducible exact chg0 | with_reducible refine Chg.drewN ?_ _ | with_reducible refine Chg.drew ?_ | with_reducible refine Chg.alloc ?_ _ | with_reducible refine Chg.setCell ?_ _ _ (by first | (simp; done) | omega | (simp; omega)) | with_reducible refine Chg.setBlock ?_ _ _ (by first | (simp; done) | omega | (simp; omega)) | exact Chg.refl _ _)))
  have o2 : ob W (w.heap.size + 1) = some (.cells #[Value.int IntKind.i64 d.d0, Value.int IntKind.i64 d.d1, Value.int IntKind.i64 d.d2] 39 (0, 0)) := by rw [hW]; simp [go_sem]
  have o3 : ob W (w.heap.size + 1 + 1) = some (.cells #[Value.slice none 0 0, Value.slice none 0 0] 35 (0, 0)) := by rw [hW]; simp [go_sem]
  have o4 : ob W (w.heap.size + 1 + 1 + 1) = some (.cells #[Value.slice none 0 0, Value.slice none 0 0] 35 (0, 0)) := by rw [hW]; simp [go_sem]
  have HN := Lib.hid (H.out.below bW)
  have BW := Lib.hid bW
  have OL := Lib.hid oL
  have O2 := Lib.hid o2
  have O3 := Lib.hid o3
  have O4 := Lib.hid o4
  have lk := ob_lt oL
  clear hW bW oL o2 o3 o4
  go_upto_region 2 with fail
  go_cut [26] (fun s26 wx => s26 = .bool (decide (er ≠ 0) || decide (l.dst ≠ n.id)) ∧ Below W.heap.size W wx)
  case first =>
    obtain ⟨c0, c1, c2, c3, c4, c5, c6, c7, c8, c9, c10, c11, c12, c13, c14, cf, cl⟩ := HN.out.cells
    obtain ⟨x0, x1, x2, x3, x4, x5, x6, x7, x8, x9, x10⟩ := OL.out.cells
    have hS : W.cell? ⟨a.p, 0, none⟩ = some (.int .i64 n.c.nodes) ∧ W.cell? ⟨a.p, 1, none⟩ = some (.int .i64 n.c.blocks) ∧ W.cell? ⟨a.p, 2, none⟩ = some (.int .i64 n.c.tokens) ∧ W.cell? ⟨a.p, 3, none⟩ = some (.int .i64 n.c.sets) ∧ W.cell? ⟨a.p, 4, none⟩ = some (.int .i64 n.c.ways) ∧ W.cell? ⟨a.p, 5, none⟩ = some (.int .i64 n.c.cap) ∧ W.cell? ⟨a.p, 6, none⟩ = some (.int .i64 n.c.wait) ∧ W.cell? ⟨a.p, 7, none⟩ = some (.int .i64 n.c.tries) ∧ W.cell? ⟨a.p, 8, none⟩ = some (.int .i64 n.c.policy) ∧ W.cell? ⟨a.p, 9, none⟩ = some (.int .i64 n.id) ∧ W.cell? ⟨w.heap.size, 0, none⟩ = some (.int .i64 l.kind) ∧ W.cell? ⟨w.heap.size, 1, none⟩ = some (.int .i64 l.src) ∧ W.cell? ⟨w.heap.size, 2, none⟩ = some (.int .i64 l.dst) ∧ W.cell? ⟨w.heap.size, 3, none⟩ = some (.int .i64 l.block) ∧ W.cell? ⟨w.heap.size, 4, none⟩ = some (.int .i64 l.seq) ∧ W.cell? ⟨w.heap.size, 5, none⟩ = some (.int .i64 l.who) ∧ W.cell? ⟨w.heap.size, 6, none⟩ = some (.bool l.write) ∧ W.cell? ⟨w.heap.size, 7, none⟩ = some (.int .i64 l.tokens.count) ∧ W.cell? ⟨w.heap.size, 8, none⟩ = some (.bool l.tokens.owner) ∧ W.cell? ⟨w.heap.size, 9, none⟩ = some (.bool l.tokens.has) ∧ W.cell? ⟨w.heap.size, 10, none⟩ = some (.int .i64 l.tokens.data) := ⟨c0, c1, c2, c3, c4, c5, c6, c7, c8, c9, x0, x1, x2, x3, x4, x5, x6, x7, x8, x9, x10⟩
    by_cases q0 : er = 0
    · clear c0 c1 c2 c3 c4 c5 c6 c7 c8 c9 c10 c11 c12 c13 c14 cf x0 x1 x2 x3 x4 x5 x6 x7 x8 x9 x10
      have q0' : (er != 0) = false := by simpa using q0
      have Q0 := Lib.hid q0
      clear q0
      first | (go_region_held3 (fun V => V.cell? ⟨a.p, 0, none⟩ = some (.int .i64 n.c.nodes) ∧ V.cell? ⟨a.p, 1, none⟩ = some (.int .i64 n.c.blocks) ∧ V.cell? ⟨a.p, 2, none⟩ = some (.int .i64 n.c.tokens) ∧ V.cell? ⟨a.p, 3, none⟩ = some (.int .i64 n.c.sets) ∧ V.cell? ⟨a.p, 4, none⟩ = some (.int .i64 n.c.ways) ∧ V.cell? ⟨a.p, 5, none⟩ = some (.int .i64 n.c.cap) ∧ V.cell? ⟨a.p, 6, none⟩ = some (.int .i64 n.c.wait) ∧ V.cell? ⟨a.p, 7, none⟩ = some (.int .i64 n.c.tries) ∧ V.cell? ⟨a.p, 8, none⟩ = some (.int .i64 n.c.policy) ∧ V.cell? ⟨a.p, 9, none⟩ = some (.int .i64 n.id) ∧ V.cell? ⟨w.heap.size, 0, none⟩ = some (.int .i64 l.kind) ∧ V.cell? ⟨w.heap.size, 1, none⟩ = some (.int .i64 l.src) ∧ V.cell? ⟨w.heap.size, 2, none⟩ = some (.int .i64 l.dst) ∧ V.cell? ⟨w.heap.size, 3, none⟩ = some (.int .i64 l.block) ∧ V.cell? ⟨w.heap.size, 4, none⟩ = some (.int .i64 l.seq) ∧ V.cell? ⟨w.heap.size, 5, none⟩ = some (.int .i64 l.who) ∧ V.cell? ⟨w.heap.size, 6, none⟩ = some (.bool l.write) ∧ V.cell? ⟨w.heap.size, 7, none⟩ = some (.int .i64 l.tokens.count) ∧ V.cell? ⟨w.heap.size, 8, none⟩ = some (.bool l.tokens.owner) ∧ V.cell? ⟨w.heap.size, 9, none⟩ = some (.bool l.tokens.has) ∧ V.cell? ⟨w.heap.size, 10, none⟩ = some (.int .i64 l.tokens.data)) (first | with_reducible assumption | (refine kept_21 (S := fun _ => False) ?_ (by simp) hS; (repeat (first | with_reducible exact Chg.refl _ _ | with_reducible exact chg0 | with_reducible refine Chg.drewN ?_ _ | with_reducible refine Chg.drew ?_ | with_reducible refine Chg.alloc ?_ _ | with_reducible refine Chg.setCell ?_ _ _ (by first | (simp; done) | omega | (simp; omega)) | with_reducible refine Chg.setBlock ?_ _ _ (by first | (simp; done) | omega | (simp; omega)) | exact Chg.refl _ _)); done) | fail) (first
        | (go_at_call 36; refine (HC.out _).mono ?_; rintro e w2 ⟨rfl, hb2⟩; have hS := kept_21 (S := fun _ => False) (Chg.of_below hb2) (by simp) (by first | with_reducible assumption | (refine kept_21 (S := fun _ => False) ?_ (by simp) hS; (repeat (first | with_reducible exact Chg.refl _ _ | with_reducible exact chg0 | with_reducible refine Chg.drewN ?_ _ | with_reducible refine Chg.drew ?_ | with_reducible refine Chg.alloc ?_ _ | with_reducible refine Chg.setCell ?_ _ _ (by first | (simp; done) | omega | (simp; omega)) | with_reducible refine Chg.setBlock ?_ _ _ (by first | (simp; done) | omega | (simp; omega)) | exact Chg.refl _ _)); done) | fail); have HB2 := Lib.hid (below_trans (Chg.below (w := W) (by repeat (first | with_reducible exact Chg.refl _ _ | with_reducible exact chg0 | with_reducible refine Chg.drewN ?_ _ | with_reducible refine Chg.drew ?_ | with_reducible refine Chg.alloc ?_ _ | with_reducible refine Chg.setCell ?_ _ _ (by first | (simp; done) | omega | (simp; omega)) | with_reducible refine Chg.setBlock ?_ _ _ (by first | (simp; done) | omega | (simp; omega)) | exact Chg.refl _ _))) hb2); clear hb2)
        | fail)) | fail
      all_goals (go_wp2_with fail)
      all_goals go_meet
      all_goals exact ⟨congrArg Value.bool (by simp [Q0.out, bne, beq_int]), below_trans HB2.out (Chg.below (by repeat (first | with_reducible exact Chg.refl _ _ | with_reducible exact chg0 | with_reducible refine Chg.drewN ?_ _ | with_reducible refine Chg.drew ?_ | with_reducible refine Chg.alloc ?_ _ | with_reducible refine Chg.setCell ?_ _ _ (by first | (simp; done) | omega | (simp; omega)) | with_reducible refine Chg.setBlock ?_ _ _ (by first | (simp; done) | omega | (simp; omega)) | exact Chg.refl _ _)))⟩
    · have q0' : (er != 0) = true := by simpa using q0
      have Q0 := Lib.hid q0
      clear q0 hS c10 c11 c12 c13 c14
      first | (go_region_with ((go_at_call 36; refine (HC.out _).mono ?_; rintro e w2 ⟨rfl, hb2⟩; have HB2 := Lib.hid (below_trans (Chg.below (w := W) (by repeat (first | with_reducible exact Chg.refl _ _ | with_reducible exact chg0 | with_reducible refine Chg.drewN ?_ _ | with_reducible refine Chg.drew ?_ | with_reducible refine Chg.alloc ?_ _ | with_reducible refine Chg.setCell ?_ _ _ (by first | (simp; done) | omega | (simp; omega)) | with_reducible refine Chg.setBlock ?_ _ _ (by first | (simp; done) | omega | (simp; omega)) | exact Chg.refl _ _))) hb2); clear hb2))) | fail
      all_goals (go_wp2_with fail)
      all_goals go_meet
      all_goals exact ⟨congrArg Value.bool (by simp [Q0.out, bne, beq_int]), below_trans HB2.out (Chg.below (by repeat (first | with_reducible exact Chg.refl _ _ | with_reducible exact chg0 | with_reducible refine Chg.drewN ?_ _ | with_reducible refine Chg.drew ?_ | with_reducible refine Chg.alloc ?_ _ | with_reducible refine Chg.setCell ?_ _ _ (by first | (simp; done) | omega | (simp; omega)) | with_reducible refine Chg.setBlock ?_ _ _ (by first | (simp; done) | omega | (simp; omega)) | exact Chg.refl _ _)))⟩
  case rest =>
    obtain ⟨rfl, hbc⟩ := hcut
    have HNc := Lib.hid (HN.out.below hbc)
    have HM := Lib.hid (Moves.none (F := nFp a FC) (Chg.of_below (below_trans BW.out hbc)))
    have hwc := below_trans BW.out hbc
    have oLc : lOb wc w.heap.size l := OL.out.step hbc
    have p2 := ob_step hbc O2.out
    have p3 := ob_step hbc O3.out
    have p4 := ob_step hbc O4.out
    have OL1 := Lib.hid oLc
    have P2 := Lib.hid p2
    have P3 := Lib.hid p3
    have P4 := Lib.hid p4
    have BC := Lib.hid hwc
    obtain ⟨x0, x1, x2, x3, x4, x5, x6, x7, x8, x9, x10⟩ := oLc.cells
    obtain ⟨y0, y1, y2, yf⟩ := ob_cells3 p2
    have k30 : wc.cell? ⟨w.heap.size + 1 + 1, 0, none⟩ = some (.slice none 0 0) := cell_ob p3 0
    have k31 : wc.cell? ⟨w.heap.size + 1 + 1, 1, none⟩ = some (.slice none 0 0) := cell_ob p3 1
    have k3f : wc.frozen? ⟨w.heap.size + 1 + 1, 0, none⟩ = false := frozen_ob p3 0
    have k3g : wc.frozen? ⟨w.heap.size + 1 + 1, 1, none⟩ = false := frozen_ob p3 1
    have k40 : wc.cell? ⟨w.heap.size + 1 + 1 + 1, 0, none⟩ = some (.slice none 0 0) := cell_ob p4 0
    have k41 : wc.cell? ⟨w.heap.size + 1 + 1 + 1, 1, none⟩ = some (.slice none 0 0) := cell_ob p4 1
    have l3 := ob_lt p3
    have l4 := ob_lt p4
    have lkc := ob_lt oLc
    have l2 := ob_lt p2
    obtain ⟨g, hg⟩ : ∃ g, g = (decide (er ≠ 0) || decide (l.dst ≠ n.id)) := ⟨_, rfl⟩
    rw [← hg]
    have HG := Lib.hid hg
    clear hg hbc hwc HC HN OL O2 O3 O4 BW oLc p2 p3 p4
    cases g
    · have hg := HG.out
      have he0 : er = 0 := by
        by_cases h0 : er = 0
        · exact h0
        · rw [decide_eq_true h0] at hg; simp at hg
      have hd0 : l.dst = n.id := by
        by_cases h0 : l.dst = n.id
        · exact h0
        · rw [decide_eq_true (show l.dst ≠ n.id from h0)] at hg; simp at hg
      have HLg := Lib.hid (HLE.out.1 he0)
      have hS2 := HS.out
      rw [if_neg (by simp [he0, hd0])] at hS2
      have HS2 := Lib.hid hS2
      clear hS2 hg he0 hd0 HG HS HLE
      have hmm := @run_makeMap Tryz.prog
      have hne0 : ¬ w.heap.size = wc.heap.size := by omega
      have hne1 : ¬ w.heap.size + 1 = wc.heap.size := by omega
      have hne2 : ¬ w.heap.size + 1 + 1 = wc.heap.size := by omega
      have hne3 : ¬ w.heap.size + 1 + 1 + 1 = wc.heap.size := by omega
      have hmf : ∀ (fn : Fn) (first cap : Array Value) (w : World), (Instr.makeFunc fn first cap).run Tryz.prog w = .ok (.func fn first cap) w := fun _ _ _ _ => rfl
      obtain ⟨m1, hm1, hu1⟩ := (MapObj.empty 0).update tyIF 1 (Value.func (Fn.func 37) #[Value.pointer (some ⟨a.p, 0, none⟩)] #[]) wc.heap.size
      obtain ⟨m2, hm2, hu2⟩ := hm1.update tyIF 2 (Value.func (Fn.func 38) #[Value.pointer (some ⟨a.p, 0, none⟩)] #[]) wc.heap.size
      obtain ⟨m3, hm3, hu3⟩ := hm2.update tyIF 4 (Value.func (Fn.func 39) #[Value.pointer (some ⟨a.p, 0, none⟩)] #[]) wc.heap.size
      obtain ⟨m4, hm4, hu4⟩ := hm3.update tyIF 6 (Value.func (Fn.func 40) #[Value.pointer (some ⟨a.p, 0, none⟩)] #[]) wc.heap.size
      obtain ⟨f4, hf4⟩ : ∃ f, f = upd (upd (upd (upd (fun _ => none) 1 (Value.func (Fn.func 37) #[Value.pointer (some ⟨a.p, 0, none⟩)] #[])) 2 (Value.func (Fn.func 38) #[Value.pointer (some ⟨a.p, 0, none⟩)] #[])) 4 (Value.func (Fn.func 39) #[Value.pointer (some ⟨a.p, 0, none⟩)] #[])) 6 (Value.func (Fn.func 40) #[Value.pointer (some ⟨a.p, 0, none⟩)] #[]) := ⟨_, rfl⟩
      rw [← hf4] at hm4
      obtain ⟨fv, hfv⟩ : ∃ v, v = (f4 l.kind).getD .nilFunc := ⟨_, rfl⟩
      obtain ⟨fb, hfb⟩ : ∃ v, v = (f4 l.kind).isSome := ⟨_, rfl⟩
      have hlk : ∀ V : World, ob V wc.heap.size = some m4 → (Instr.lookup 99 (.map (some wc.heap.size)) (.int .i64 l.kind) true).run Tryz.prog V = .ok (.tuple #[fv, .bool fb]) V := fun V hV => by
        rw [hm4.lookup_ok tyIF l.kind _ V hV, hfv, hfb]
      have HF4 := Lib.hid hf4
      have HFV := Lib.hid hfv
      have HFB := Lib.hid hfb
      have HHK := Lib.hid (show ∀ b, (n.cache.tok b).count ≤ 900000000000 from HB.out)
      clear hm1 hm2 hm3 hm4 hf4 hfv hfb
      go_upto_if 45 with fail
      obtain ⟨F0, hR0, hF0⟩ := HNc.out.start (q := w.heap.size + 1 + 1 + 1) P4.out (fun hf => by have := HF.out _ hf; omega)
      have HR0 := Lib.hid hR0
      have HNK := Lib.hid (show ¬ F0 wc.heap.size from fun hf => Nat.lt_irrefl _ (hR0.lt _ hf))
      have HNO := Lib.hid (show ¬ F0 (w.heap.size + 1 + 1) from fun hf => (hF0 _ hf).elim (fun h => by have := HF.out _ h; omega) (fun h => by omega))
      have HM0 := Lib.hid (show Moves w wc (nFp a FC) F0 from ⟨HM.out.chg, fun j hj => (hF0 j hj).imp id (fun e => by omega)⟩)
      clear hR0 hF0
      go_cut [] (fun wx => ∃ F', Run wx a (w.heap.size + 1 + 1 + 1) (n.take l d).1 (n.take l d).2.1 (n.take l d).2.2 F' ∧ Moves w wx (nFp a FC) F' ∧ ob wx (w.heap.size + 1 + 1) = some (Obj.cells #[Value.slice none 0 0, Value.slice none 0 0] 35) ∧ ¬ F' (w.heap.size + 1 + 1))
      case first =>
        by_cases k1 : l.kind = 1
        · have hv : fv = (Value.func (Fn.func 37) #[Value.pointer (some ⟨a.p, 0, none⟩)] #[]) := by rw [HFV.out, HF4.out, k1]; simp [upd]
          have hbb : fb = true := by rw [HFB.out, HF4.out, k1]; simp [upd]
          subst hv
          subst hbb
          have K1 := Lib.hid k1
          clear k1
          go_wp2_with fail
          refine (tokens_calls l d (HR0.out.below (Chg.below (by repeat (first | with_reducible exact Chg.refl _ _ | with_reducible exact chg0 | with_reducible refine Chg.drewN ?_ _ | with_reducible refine Chg.drew ?_ | with_reducible refine Chg.alloc ?_ _ | with_reducible refine Chg.setCell ?_ _ _ (by first | (simp; done) | omega | (simp; omega)) | with_reducible refine Chg.setBlock ?_ _ _ (by first | (simp; done) | omega | (simp; omega)) | exact Chg.refl _ _)))) (by simp) (by simp) (HLg.out.good K1.out).1 (by have := HHK.out l.block; have := (HLg.out.good K1.out).2.1; have := HNc.out.sane.c.tokens.2; omega)).mono ?_
          rintro e w5 ⟨rfl, F5, hR5, m5⟩
          go_wp2_with fail
          go_meet
          have ht : n.take l d = n.tokens l := by rw [HS2.out, if_pos K1.out]
          rw [ht]
          obtain ⟨g1, g2⟩ := m5.aside (Chg.ob (S := fun _ => False) (by repeat (first | with_reducible exact Chg.refl _ _ | with_reducible exact chg0 | with_reducible refine Chg.drewN ?_ _ | with_reducible refine Chg.drew ?_ | with_reducible refine Chg.alloc ?_ _ | with_reducible refine Chg.setCell ?_ _ _ (by first | (simp; done) | omega | (simp; omega)) | with_reducible refine Chg.setBlock ?_ _ _ (by first | (simp; done) | omega | (simp; omega)) | exact Chg.refl _ _)) P3.out (fun h => h)) HNO.out
          exact ⟨F5, by simpa using hR5, HM0.out.trans ((Moves.none (by repeat (first | with_reducible exact Chg.refl _ _ | with_reducible exact chg0 | with_reducible refine Chg.drewN ?_ _ | with_reducible refine Chg.drew ?_ | with_reducible refine Chg.alloc ?_ _ | with_reducible refine Chg.setCell ?_ _ _ (by first | (simp; done) | omega | (simp; omega)) | with_reducible refine Chg.setBlock ?_ _ _ (by first | (simp; done) | omega | (simp; omega)) | exact Chg.refl _ _))).trans m5), g1, g2⟩
        · have K1 := Lib.hid k1
          by_cases k2 : l.kind = 2
          · have hv : fv = (Value.func (Fn.func 38) #[Value.pointer (some ⟨a.p, 0, none⟩)] #[]) := by rw [HFV.out, HF4.out, k2]; simp [upd]
            have hbb : fb = true := by rw [HFB.out, HF4.out, k2]; simp [upd]
            subst hv
            subst hbb
            have K2 := Lib.hid k2
            clear k2
            go_wp2_with fail
            refine (asks_calls l d (HR0.out.below (Chg.below (by repeat (first | with_reducible exact Chg.refl _ _ | with_reducible exact chg0 | with_reducible refine Chg.drewN ?_ _ | with_reducible refine Chg.drew ?_ | with_reducible refine Chg.alloc ?_ _ | with_reducible refine Chg.setCell ?_ _ _ (by first | (simp; done) | omega | (simp; omega)) | with_reducible refine Chg.setBlock ?_ _ _ (by first | (simp; done) | omega | (simp; omega)) | exact Chg.refl _ _)))) (by simp) (by have := HHK.out l.block; omega)).mono ?_
            rintro e w5 ⟨rfl, F5, hR5, m5⟩
            go_wp2_with fail
            go_meet
            have ht : n.take l d = ((n.asks l d).1, (n.asks l d).2, []) := by rw [HS2.out, if_neg K1.out, if_pos K2.out]
            rw [ht]
            obtain ⟨g1, g2⟩ := m5.aside (Chg.ob (S := fun _ => False) (by repeat (first | with_reducible exact Chg.refl _ _ | with_reducible exact chg0 | with_reducible refine Chg.drewN ?_ _ | with_reducible refine Chg.drew ?_ | with_reducible refine Chg.alloc ?_ _ | with_reducible refine Chg.setCell ?_ _ _ (by first | (simp; done) | omega | (simp; omega)) | with_reducible refine Chg.setBlock ?_ _ _ (by first | (simp; done) | omega | (simp; omega)) | exact Chg.refl _ _)) P3.out (fun h => h)) HNO.out
            exact ⟨F5, by simpa using hR5, HM0.out.trans ((Moves.none (by repeat (first | with_reducible exact Chg.refl _ _ | with_reducible exact chg0 | with_reducible refine Chg.drewN ?_ _ | with_reducible refine Chg.drew ?_ | with_reducible refine Chg.alloc ?_ _ | with_reducible refine Chg.setCell ?_ _ _ (by first | (simp; done) | omega | (simp; omega)) | with_reducible refine Chg.setBlock ?_ _ _ (by first | (simp; done) | omega | (simp; omega)) | exact Chg.refl _ _))).trans m5), g1, g2⟩
          · have K2 := Lib.hid k2
            by_cases k4 : l.kind = 4
            · have hv : fv = (Value.func (Fn.func 39) #[Value.pointer (some ⟨a.p, 0, none⟩)] #[]) := by rw [HFV.out, HF4.out, k4]; simp [upd]
              have hbb : fb = true := by rw [HFB.out, HF4.out, k4]; simp [upd]
              subst hv
              subst hbb
              have K4 := Lib.hid k4
              clear k4
              go_wp2_with fail
              refine (activate_calls l d (HR0.out.below (Chg.below (by repeat (first | with_reducible exact Chg.refl _ _ | with_reducible exact chg0 | with_reducible refine Chg.drewN ?_ _ | with_reducible refine Chg.drew ?_ | with_reducible refine Chg.alloc ?_ _ | with_reducible refine Chg.setCell ?_ _ _ (by first | (simp; done) | omega | (simp; omega)) | with_reducible refine Chg.setBlock ?_ _ _ (by first | (simp; done) | omega | (simp; omega)) | exact Chg.refl _ _)))) (by simp) (by have := HLg.out.block; have := HNc.out.sane.c.blocks; omega) (by have := HHK.out l.block; omega)).mono ?_
              rintro e w5 ⟨rfl, F5, hR5, m5⟩
              go_wp2_with fail
              go_meet
              have ht : n.take l d = ((n.activate l).1, (n.activate l).2, []) := by rw [HS2.out, if_neg K1.out, if_neg K2.out, if_pos K4.out]
              rw [ht]
              obtain ⟨g1, g2⟩ := m5.aside (Chg.ob (S := fun _ => False) (by repeat (first | with_reducible exact Chg.refl _ _ | with_reducible exact chg0 | with_reducible refine Chg.drewN ?_ _ | with_reducible refine Chg.drew ?_ | with_reducible refine Chg.alloc ?_ _ | with_reducible refine Chg.setCell ?_ _ _ (by first | (simp; done) | omega | (simp; omega)) | with_reducible refine Chg.setBlock ?_ _ _ (by first | (simp; done) | omega | (simp; omega)) | exact Chg.refl _ _)) P3.out (fun h => h)) HNO.out
              exact ⟨F5, by simpa using hR5, HM0.out.trans ((Moves.none (by repeat (first | with_reducible exact Chg.refl _ _ | with_reducible exact chg0 | with_reducible refine Chg.drewN ?_ _ | with_reducible refine Chg.drew ?_ | with_reducible refine Chg.alloc ?_ _ | with_reducible refine Chg.setCell ?_ _ _ (by first | (simp; done) | omega | (simp; omega)) | with_reducible refine Chg.setBlock ?_ _ _ (by first | (simp; done) | omega | (simp; omega)) | exact Chg.refl _ _))).trans m5), g1, g2⟩
            · have K4 := Lib.hid k4
              by_cases k6 : l.kind = 6
              · have hv : fv = (Value.func (Fn.func 40) #[Value.pointer (some ⟨a.p, 0, none⟩)] #[]) := by rw [HFV.out, HF4.out, k6]; simp [upd]
                have hbb : fb = true := by rw [HFB.out, HF4.out, k6]; simp [upd]
                subst hv
                subst hbb
                have K6 := Lib.hid k6
                clear k6
                go_wp2_with fail
                refine (deactivate_calls l d (HR0.out.below (Chg.below (by repeat (first | with_reducible exact Chg.refl _ _ | with_reducible exact chg0 | with_reducible refine Chg.drewN ?_ _ | with_reducible refine Chg.drew ?_ | with_reducible refine Chg.alloc ?_ _ | with_reducible refine Chg.setCell ?_ _ _ (by first | (simp; done) | omega | (simp; omega)) | with_reducible refine Chg.setBlock ?_ _ _ (by first | (simp; done) | omega | (simp; omega)) | exact Chg.refl _ _)))) (by simp)).mono ?_
                rintro e w5 ⟨rfl, F5, hR5, m5⟩
                go_wp2_with fail
                go_meet
                have ht : n.take l d = ((n.deactivate l).1, (n.deactivate l).2, []) := by rw [HS2.out, if_neg K1.out, if_neg K2.out, if_neg K4.out, if_pos K6.out]
                rw [ht]
                obtain ⟨g1, g2⟩ := m5.aside (Chg.ob (S := fun _ => False) (by repeat (first | with_reducible exact Chg.refl _ _ | with_reducible exact chg0 | with_reducible refine Chg.drewN ?_ _ | with_reducible refine Chg.drew ?_ | with_reducible refine Chg.alloc ?_ _ | with_reducible refine Chg.setCell ?_ _ _ (by first | (simp; done) | omega | (simp; omega)) | with_reducible refine Chg.setBlock ?_ _ _ (by first | (simp; done) | omega | (simp; omega)) | exact Chg.refl _ _)) P3.out (fun h => h)) HNO.out
                exact ⟨F5, by simpa using hR5, HM0.out.trans ((Moves.none (by repeat (first | with_reducible exact Chg.refl _ _ | with_reducible exact chg0 | with_reducible refine Chg.drewN ?_ _ | with_reducible refine Chg.drew ?_ | with_reducible refine Chg.alloc ?_ _ | with_reducible refine Chg.setCell ?_ _ _ (by first | (simp; done) | omega | (simp; omega)) | with_reducible refine Chg.setBlock ?_ _ _ (by first | (simp; done) | omega | (simp; omega)) | exact Chg.refl _ _))).trans m5), g1, g2⟩
              · have K6 := Lib.hid k6
                have hbb : fb = false := by rw [HFB.out, HF4.out]; simp [upd, K1.out, K2.out, K4.out, K6.out]
                subst hbb
                clear k1 k2 k4 k6
                go_wp2_with fail
                go_meet
                have ht : n.take l d = (n, [], []) := by rw [HS2.out, if_neg K1.out, if_neg K2.out, if_neg K4.out, if_neg K6.out]
                rw [ht]
                exact ⟨F0, HR0.out.below (Chg.below (by repeat (first | with_reducible exact Chg.refl _ _ | with_reducible exact chg0 | with_reducible refine Chg.drewN ?_ _ | with_reducible refine Chg.drew ?_ | with_reducible refine Chg.alloc ?_ _ | with_reducible refine Chg.setCell ?_ _ _ (by first | (simp; done) | omega | (simp; omega)) | with_reducible refine Chg.setBlock ?_ _ _ (by first | (simp; done) | omega | (simp; omega)) | exact Chg.refl _ _))), HM0.out.trans (Moves.none (by repeat (first | with_reducible exact Chg.refl _ _ | with_reducible exact chg0 | with_reducible refine Chg.drewN ?_ _ | with_reducible refine Chg.drew ?_ | with_reducible refine Chg.alloc ?_ _ | with_reducible refine Chg.setCell ?_ _ _ (by first | (simp; done) | omega | (simp; omega)) | with_reducible refine Chg.setBlock ?_ _ _ (by first | (simp; done) | omega | (simp; omega)) | exact Chg.refl _ _))), Chg.ob (S := fun _ => False) (by repeat (first | with_reducible exact Chg.refl _ _ | with_reducible exact chg0 | with_reducible refine Chg.drewN ?_ _ | with_reducible refine Chg.drew ?_ | with_reducible refine Chg.alloc ?_ _ | with_reducible refine Chg.setCell ?_ _ _ (by first | (simp; done) | omega | (simp; omega)) | with_reducible refine Chg.setBlock ?_ _ _ (by first | (simp; done) | omega | (simp; omega)) | exact Chg.refl _ _)) P3.out (fun h => h), HNO.out⟩
      case rest =>
        obtain ⟨F9, hR9, hM9, hO9, hN9⟩ := hcut
        obtain ⟨FC9, A1, n1, z1, A2, n2, z2, hS9, hq9, hF9⟩ := hR9.ended H.out hM9 (by omega)
        clear k30 k31 k3f k3g k40 k41 l3 l4
        have k30 : wc.cell? ⟨w.heap.size + 1 + 1, 0, none⟩ = some (.slice none 0 0) := cell_ob hO9 0
        have k31 : wc.cell? ⟨w.heap.size + 1 + 1, 1, none⟩ = some (.slice none 0 0) := cell_ob hO9 1
        have k3f : wc.frozen? ⟨w.heap.size + 1 + 1, 0, none⟩ = false := frozen_ob hO9 0
        have k3g : wc.frozen? ⟨w.heap.size + 1 + 1, 1, none⟩ = false := frozen_ob hO9 1
        have k40 : wc.cell? ⟨w.heap.size + 1 + 1 + 1, 0, none⟩ = some (.slice A1 n1 z1) := cell_ob hq9 0
        have k41 : wc.cell? ⟨w.heap.size + 1 + 1 + 1, 1, none⟩ = some (.slice A2 n2 z2) := cell_ob hq9 1
        have HS9 := Lib.hid hS9
        have HF9 := Lib.hid hF9
        have HO9 := Lib.hid hO9
        have HN9 := Lib.hid hN9
        have lq9 := ob_lt hq9
        have lo9 := ob_lt hO9
        clear hS9 hF9 hq9 hR9 hM9 hO9 hN9 hu1 hu2 hu3 hu4 hlk
        go_wp2_with fail
        (try simp only [Exit.inBlock, Exit.then])
        refine bodyRet1 _ rfl rfl (ResIs.row Tryz.underlying35 rfl (by kernel_rfl) rfl (by first | (simp [go_sem, HO9.out, lo9, setAt]; done) | (simp [go_sem, HO9.out, lo9, setAt]; exact ⟨rfl, rfl, rfl⟩))) ?_
        refine ⟨FC9, _, _, rfl, ?_⟩
        exact HS9.out.put (S := fun j => j = w.heap.size + 1 + 1) (by (repeat (first | with_reducible exact Chg.refl _ _ | with_reducible refine Chg.drewN ?_ _ | with_reducible refine Chg.drew ?_ | with_reducible refine Chg.alloc ?_ _ | with_reducible refine Chg.setCell ?_ _ _ (fun _ => rfl)))) fun j e => ⟨by omega, fun hf => HN9.out (HF9.out _ (by subst e; exact hf))⟩
    · have hg := HG.out
      have hS2 : n.take l d = (n, [], []) := by
        rw [HS.out, if_pos]
        by_cases h0 : er = 0
        · right
          rw [h0] at hg
          intro h1
          rw [h1] at hg
          simp at hg
        · left; simp [h0]
      have HS2 := Lib.hid hS2
      clear hS2 hg HG HS HLE
      go_wp2_with fail
      (try simp only [Exit.inBlock, Exit.then])
      refine bodyRet1 _ rfl rfl (ResIs.row Tryz.underlying35 rfl (by kernel_rfl) rfl (by first | (simp [go_sem, P3.out, l3, setAt]; done) | (simp [go_sem, P3.out, l3, setAt]; exact ⟨rfl, rfl, rfl⟩))) ?_
      rw [HS2.out]
      exact ⟨FC, _, _, rfl, Sent.nil (n := n) (HNc.out.chg (S := fun j => j = w.heap.size + 1 + 1) (by (repeat (first | with_reducible exact Chg.refl _ _ | with_reducible refine Chg.drewN ?_ _ | with_reducible refine Chg.drew ?_ | with_reducible refine Chg.alloc ?_ _ | with_reducible refine Chg.setCell ?_ _ _ (fun _ => rfl)))) fun j hj e => by have := HF.out j hj; omega) ⟨HM.out.chg.trans (S' := fun j => j = w.heap.size + 1 + 1) (by (repeat (first | with_reducible exact Chg.refl _ _ | with_reducible refine Chg.drewN ?_ _ | with_reducible refine Chg.drew ?_ | with_reducible refine Chg.alloc ?_ _ | with_reducible refine Chg.setCell ?_ _ _ (fun _ => rfl)))) (fun j hj e => by omega), fun j hj => .inl hj⟩⟩
end
end Go.Proofs.YtchlioikkhnidaaGreat
