/-
  The program's node at work, its parts named; tokens come.
-/
import Derived.Test.YtchlioikkhnidaaGreatMN5
import Derived.Test.YtchlioikkhnidaaGreatMK
import Derived.Test.YtchlioikkhnidaaGreatMN2
import Derived.Test.YtchlioikkhnidaaGreatMA
set_option linter.unusedVariables false
set_option linter.unusedSimpArgs false
namespace Go.Proofs.YtchlioikkhnidaaGreat
open Go.RowKit Go.Sort Go.ChangeShapes Go.WideShapes Go.ChangeAt
open Go.ChangeMaps (setBlock)
set_option linter.unusedVariables false
set_option linter.unusedSimpArgs false
section
variable {w w' w'' : World} {a : NAddr} {q : Nat} {n n' : Node} {L L' : List Letter} {D D' : List Done} {F F' FC : Nat → Prop} {v1 v2 : Value}
set_option maxHeartbeats 4000000 in
set_option maxRecDepth 20000 in
theorem LTokens_calls (src dst block : Int) (b : Bundle) (w : World) : Calls Tryz.prog 87 #[.int .i64 src, .int .i64 dst, .int .i64 block, b.val] w (Pure w (Letter.tok src dst block b).val) := by
  simp only [Bundle.val, Bundle.cells, Letter.tok, Letter.val, Letter.cells]
  go_enter Tryz.func87, Tryz.ntmps87
  go_wp2_with fail
  (try simp only [Exit.inBlock, Exit.then])
  refine bodyRet1 _ rfl rfl (ResIs.row Tryz.underlying44 rfl (by kernel_rfl) rfl (by simp [go_sem]; exact ⟨rfl, rfl, rfl⟩)) ?_
  exact pure_of rfl (by repeat (first | with_reducible exact Chg.refl _ _ | with_reducible exact chg0 | with_reducible refine Chg.drewN ?_ _ | with_reducible refine Chg.drew ?_ | with_reducible refine Chg.alloc ?_ _ | with_reducible refine Chg.setCell ?_ _ _ (by first | (simp; done) | omega | (simp; omega)) | with_reducible refine Chg.setBlock ?_ _ _ (by first | (simp; done) | omega | (simp; omega)) | exact Chg.refl _ _))

theorem lOb.cells {w : World} {b : Nat} {l : Letter} (h : lOb w b l) : w.cell? ⟨b, 0, none⟩ = some (.int .i64 l.kind) ∧ w.cell? ⟨b, 1, none⟩ = some (.int .i64 l.src) ∧ w.cell? ⟨b, 2, none⟩ = some (.int .i64 l.dst) ∧ w.cell? ⟨b, 3, none⟩ = some (.int .i64 l.block) ∧ w.cell? ⟨b, 4, none⟩ = some (.int .i64 l.seq) ∧ w.cell? ⟨b, 5, none⟩ = some (.int .i64 l.who) ∧ w.cell? ⟨b, 6, none⟩ = some (.bool l.write) ∧
    w.cell? ⟨b, 7, none⟩ = some (.int .i64 l.tokens.count) ∧ w.cell? ⟨b, 8, none⟩ = some (.bool l.tokens.owner) ∧ w.cell? ⟨b, 9, none⟩ = some (.bool l.tokens.has) ∧ w.cell? ⟨b, 10, none⟩ = some (.int .i64 l.tokens.data) :=
  ⟨cell_ob h 0, cell_ob h 1, cell_ob h 2, cell_ob h 3, cell_ob h 4, cell_ob h 5, cell_ob h 6, cell_ob h 7, cell_ob h 8, cell_ob h 9, cell_ob h 10⟩

theorem NO.run (h : NO w a n FC q v1 v2 L D) : Run w a q n L D (noFp a FC q v1 v2) := ⟨FC, v1, v2, h, rfl⟩
theorem NO.chg {S : Nat → Prop} (h : NO w a n FC q v1 v2 L D) (hc : Chg S w w') (hn : ∀ j, noFp a FC q v1 v2 j → ¬ S j) : NO w' a n FC q v1 v2 L D :=
  ⟨h.node.chg hc fun j hj => hn j (.inl hj), h.out.chg hc fun j hj => hn j (.inr hj), h.apart⟩
theorem NO.below (h : NO w a n FC q v1 v2 L D) (hb : Below w.heap.size w w') : NO w' a n FC q v1 v2 L D := h.chg (S := fun _ => False) (Chg.of_below hb) fun _ _ h => h
theorem NO.lt (h : NO w a n FC q v1 v2 L D) : ∀ j, noFp a FC q v1 v2 j → j < w.heap.size := h.run.lt
theorem NO.lift {FC' : Nat → Prop} (h : NO w a n FC q v1 v2 L D) (h1 : NodeIn w' a n' FC') (mv : Moves w w' (nFp a FC) (nFp a FC')) : NO w' a n' FC' q v1 v2 L D ∧ Moves w w' (noFp a FC q v1 v2) (noFp a FC' q v1 v2) := by
  refine ⟨⟨h1, h.out.chg mv.chg fun j hj hf => h.apart j hj hf, fun j hj hf => ?_⟩, mv.chg.mono fun _ _ h => .inl h, fun j hj => ?_⟩
  · rcases mv.fresh j hf with h2 | h2
    · exact h.apart j hj h2
    · have := h.out.lt j hj; omega
  · rcases hj with hj | hj
    · exact (mv.fresh j hj).imp .inl id
    · exact .inl (.inr hj)
theorem NO.cacheL {V : World} {c' : CacheM} {FC' : Nat → Prop} (h : NO V a n FC q v1 v2 L D) (h1 : CacheAt w' a.lp c' FC') (mv : Moves V w' FC FC') : NO w' a { n with cache := c' } FC' q v1 v2 L D ∧ Moves V w' (noFp a FC q v1 v2) (noFp a FC' q v1 v2) := by
  obtain ⟨g1, g2⟩ := h.node.cacheL h1 mv
  exact h.lift g1 g2
theorem NO.cacheV {V : World} {c' : CacheM} {FC' : Nat → Prop} (mv : Moves V w' FC FC') (h1 : CacheAt w' a.lp c' FC') (h : NO w a n FC q v1 v2 L D) (hb : Below w.heap.size w V) : NO w' a { n with cache := c' } FC' q v1 v2 L D ∧ Moves V w' (noFp a FC q v1 v2) (noFp a FC' q v1 v2) ∧ Moves w w' (noFp a FC q v1 v2) (noFp a FC' q v1 v2) :=
  have g := (h.below hb).cacheL h1 mv
  ⟨g.1, g.2, (Moves.none (Chg.of_below hb)).trans g.2⟩
/-- A block beside it is written. -/
theorem NO.fin {w0 : World} {K : Nat} (h : NO w a n FC q v1 v2 L D) (m : Moves w0 w F (noFp a FC q v1 v2)) (hk : ¬ noFp a FC q v1 v2 K) (hK : w0.heap.size ≤ K) (hc : Chg (fun j => j = K) w w') : NO w' a n FC q v1 v2 L D ∧ Moves w0 w' F (noFp a FC q v1 v2) :=
  ⟨h.chg hc fun j hj e => hk (e ▸ hj), m.chg.trans hc fun j hj e => by subst e; omega, m.fresh⟩
theorem NO.send (l : Letter) (h : NO w a n FC q v1 v2 L D) (hl : L.length ≤ 1000000) :
    Calls Tryz.prog 50 #[.pointer (some ⟨q, 0, none⟩), l.val] w fun e w' => e = .returned (.tuple #[]) ∧ ∃ v1', NO w' a n FC q v1' v2 (L ++ [l]) D ∧ Moves w w' (noFp a FC q v1 v2) (noFp a FC q v1' v2) :=
  (send_calls l h.out hl).mono fun e w' ⟨he, v1', g1, g2⟩ => ⟨he, v1', ⟨h.node.chg g2.chg fun j hj hf => h.apart j hf hj, g1, fun j hj hf => (g2.fresh j hj).elim (fun h2 => h.apart j h2 hf) fun h2 => by have := h.node.lt j hf; omega⟩,
    g2.chg.mono fun _ _ h => .inr h, fun j hj => hj.elim (fun hj => .inl (.inl hj)) fun hj => (g2.fresh j hj).imp .inr id⟩
/-- Blocks beside it, through a turn. -/
theorem old_moves (m : Moves w w' F F') : (∀ b o, ¬ F b → b < w.heap.size → w'.cell? ⟨b, o, none⟩ = w.cell? ⟨b, o, none⟩) ∧ (∀ b o, ¬ F b → b < w.heap.size → w'.frozen? ⟨b, o, none⟩ = w.frozen? ⟨b, o, none⟩) := by
  refine ⟨fun b o hn hl => ?_, fun b o hn hl => m.chg.frozen (a := ⟨b, o, none⟩) hl hn⟩
  simp only [World.cell?]
  rw [m.chg.block b hl hn]

set_option maxHeartbeats 8000000 in
set_option maxRecDepth 20000 in
theorem tokens_calls (l : Letter) (d : Draws) (h : Run w a q n L D F) (hl : L.length ≤ 900000) (hd : D.length ≤ 900000) (g : l.tokens.Good) (hb : (n.cache.tok l.block).count + l.tokens.count ≤ 1000000000000) :
    Calls Tryz.prog 37 #[.pointer (some ⟨a.p, 0, none⟩), l.val, d.val, .pointer (some ⟨q, 0, none⟩)] w fun e w' => e = .returned (.tuple #[]) ∧ ∃ F', Run w' a q (n.tokens l).1 (L ++ (n.tokens l).2.1) (D ++ (n.tokens l).2.2) F' ∧ Moves w w' F F' := by
  obtain ⟨FC, v1, v2, h, rfl⟩ := h
  have H := Lib.hid h
  have HF := Lib.hid h.lt
  have HG := Lib.hid g
  have HB := Lib.hid hb
  have hset : n.tokens l = if n.other l.block = true then (n, [Letter.tok n.id (n.table.act l.block).node l.block l.tokens], []) else
      ((Node.settle { n with cache := (n.cache.absorb l.block l.tokens n.cpu.pinned).1 }).1, (if (n.cache.absorb l.block l.tokens n.cpu.pinned).2.2 = true then [Letter.tok n.id n.c.nodes (n.cache.absorb l.block l.tokens n.cpu.pinned).2.1.block (n.cache.absorb l.block l.tokens n.cpu.pinned).2.1.tokens] else []) ++ (Node.settle { n with cache := (n.cache.absorb l.block l.tokens n.cpu.pinned).1 }).2.1,
        (Node.settle { n with cache := (n.cache.absorb l.block l.tokens n.cpu.pinned).1 }).2.2) := rfl
  have HS := Lib.hid hset
  clear h hset g hb
  simp only [Letter.val, Letter.cells, Draws.val, Draws.cells]
  go_enter Tryz.func37, Tryz.ntmps37
  go_wp2_with fail
  refine (other_calls l.block (H.out.node.below (Chg.below (by repeat (first | with_reducible exact Chg.refl _ _ | with_reducible exact chg0 | with_reducible refine Chg.drewN ?_ _ | with_reducible refine Chg.drew ?_ | with_reducible refine Chg.alloc ?_ _ | with_reducible refine Chg.setCell ?_ _ _ (by first | (simp; done) | omega | (simp; omega)) | with_reducible refine Chg.setBlock ?_ _ _ (by first | (simp; done) | omega | (simp; omega)) | exact Chg.refl _ _))))).mono ?_
  rintro e w1 ⟨rfl, hb1⟩
  have hw1 : Below w.heap.size w w1 := below_trans (Chg.below (by repeat (first | with_reducible exact Chg.refl _ _ | with_reducible exact chg0 | with_reducible refine Chg.drewN ?_ _ | with_reducible refine Chg.drew ?_ | with_reducible refine Chg.alloc ?_ _ | with_reducible refine Chg.setCell ?_ _ _ (by first | (simp; done) | omega | (simp; omega)) | with_reducible refine Chg.setBlock ?_ _ _ (by first | (simp; done) | omega | (simp; omega)) | exact Chg.refl _ _))) hb1
  have oL : lOb w1 w.heap.size l := (Chg.of_below (S := fun _ => False) hb1).ob (by simp [go_sem]) (fun h => h)
  have nB : ¬ noFp a FC q v1 v2 w.heap.size := fun hf => absurd (HF.out _ hf) (Nat.lt_irrefl _)
  have NB := Lib.hid nB
  have HN := Lib.hid (H.out.below hw1)
  have HM := Lib.hid (Moves.none (F := noFp a FC q v1 v2) (Chg.of_below hw1))
  have HL := Lib.hid (H.out.below hw1).lt
  obtain ⟨c0, c1, c2, c3, c4, c5, c6, c7, c8, c9, c10, c11, c12, c13, c14, cf, cl⟩ := HN.out.node.cells
  obtain ⟨x0, x1, x2, x3, x4, x5, x6, x7, x8, x9, x10⟩ := oL.cells
  have OL := Lib.hid oL
  have lk := ob_lt oL
  obtain ⟨ot, hot⟩ : ∃ b, b = n.other l.block := ⟨_, rfl⟩
  obtain ⟨nd, hnd⟩ : ∃ b, b = (n.table.act l.block).node := ⟨_, rfl⟩
  rw [← hot, ← hnd]
  rw [← hot, ← hnd] at HS
  have HT := Lib.hid (fun V => LTokens_calls n.id nd l.block l.tokens V)
  simp only [Bundle.val, Bundle.cells] at HT
  clear hb1 hw1 nB oL hot hnd
  cases ot
  · obtain ⟨ab, hab⟩ : ∃ x, x = n.cache.absorb l.block l.tokens n.cpu.pinned := ⟨_, rfl⟩
    have HA := Lib.hid (fun (V : World) (hV : CacheAt V a.lp n.cache FC) => Absorb_calls l.block l.tokens n.cpu.pinned hV HG.out HB.out)
    rw [← hab] at HA HS
    simp only [Bundle.val, Bundle.cells, Line.val, Line.cells] at HA
    have nF1 : ¬ noFp a FC q v1 v2 w1.heap.size := fun hf => absurd (HL.out _ hf) (Nat.lt_irrefl _)
    have lw := HM.out.chg.size
    have nFk : ¬ FC w.heap.size := fun hf => NB.out (.inl (.inr hf))
    have HNP := Lib.hid (HN.out.node.apart a.p (by simp [NAddr.list]))
    clear hab HT
    go_upto_region 4 with fail
    go_cut [10, 11] (fun s10 s11 wx => ∃ k FC' , s10 = .pointer (some ⟨k, 0, none⟩) ∧ s11 = .bool ab.2.2 ∧ NO wx a { n with cache := ab.1 } FC' q v1 v2 L D ∧ Moves w wx (noFp a FC q v1 v2) (noFp a FC' q v1 v2) ∧ ob wx k = some (.cells #[.int .i64 ab.2.1.block, .int .i64 ab.2.1.tokens.count, .bool ab.2.1.tokens.owner, .bool ab.2.1.tokens.has, .int .i64 ab.2.1.tokens.data] 53 (0, 0)) ∧ ¬ noFp a FC' q v1 v2 k)
    case first =>
      have hS : w1.cell? ⟨a.p, 10, none⟩ = some (.pointer (some ⟨a.lp, 0, none⟩)) ∧ w1.cell? ⟨a.p, 12, none⟩ = some (.pointer (some ⟨a.cp, 0, none⟩)) ∧ w1.cell? ⟨w.heap.size, 3, none⟩ = some (.int .i64 l.block) ∧ w1.cell? ⟨w.heap.size, 7, none⟩ = some (.int .i64 l.tokens.count) ∧ w1.cell? ⟨w.heap.size, 8, none⟩ = some (.bool l.tokens.owner) ∧ w1.cell? ⟨w.heap.size, 9, none⟩ = some (.bool l.tokens.has) ∧ w1.cell? ⟨w.heap.size, 10, none⟩ = some (.int .i64 l.tokens.data) := ⟨c10, c12, x3, x7, x8, x9, x10⟩
      clear c0 c1 c2 c3 c4 c5 c6 c7 c8 c9 c10 c11 c12 c13 c14 cf x0 x1 x2 x3 x4 x5 x6 x7 x8 x9 x10
      go_region_held3 (fun V => V.cell? ⟨a.p, 10, none⟩ = some (.pointer (some ⟨a.lp, 0, none⟩)) ∧ V.cell? ⟨a.p, 12, none⟩ = some (.pointer (some ⟨a.cp, 0, none⟩)) ∧ V.cell? ⟨w.heap.size, 3, none⟩ = some (.int .i64 l.block) ∧ V.cell? ⟨w.heap.size, 7, none⟩ = some (.int .i64 l.tokens.count) ∧ V.cell? ⟨w.heap.size, 8, none⟩ = some (.bool l.tokens.owner) ∧ V.cell? ⟨w.heap.size, 9, none⟩ = some (.bool l.tokens.has) ∧ V.cell? ⟨w.heap.size, 10, none⟩ = some (.int .i64 l.tokens.data)) (first | with_reducible assumption | (refine kept_7 (S := fun _ => False) ?_ (by simp) hS; (repeat (first | with_reducible exact Chg.refl _ _ | with_reducible exact chg0 | with_reducible refine Chg.drewN ?_ _ | with_reducible refine Chg.drew ?_ | with_reducible refine Chg.alloc ?_ _ | with_reducible refine Chg.setCell ?_ _ _ (by first | (simp; done) | omega | (simp; omega)) | with_reducible refine Chg.setBlock ?_ _ _ (by first | (simp; done) | omega | (simp; omega)) | exact Chg.refl _ _)); done) | (refine keptAt_7 w2.heap.size ?_ (by (simp only [ne_eq]; omega)) hS; (repeat (first | with_reducible exact Chg.refl _ _ | with_reducible refine Chg.drewN ?_ _ | with_reducible refine Chg.drew ?_ | with_reducible refine Chg.alloc ?_ _ | with_reducible refine Chg.setCell ?_ _ _ (fun _ => rfl))); done) | (refine keptAt_7 w1.heap.size ?_ (by (simp only [ne_eq]; omega)) hS; (repeat (first | with_reducible exact Chg.refl _ _ | with_reducible refine Chg.drewN ?_ _ | with_reducible refine Chg.drew ?_ | with_reducible refine Chg.alloc ?_ _ | with_reducible refine Chg.setCell ?_ _ _ (fun _ => rfl))); done) | fail) (first
        | (go_at_call 89; refine (Pinned_calls (HN.out.node.cpu.below (Chg.below (by repeat (first | with_reducible exact Chg.refl _ _ | with_reducible exact chg0 | with_reducible refine Chg.drewN ?_ _ | with_reducible refine Chg.drew ?_ | with_reducible refine Chg.alloc ?_ _ | with_reducible refine Chg.setCell ?_ _ _ (by first | (simp; done) | omega | (simp; omega)) | with_reducible refine Chg.setBlock ?_ _ _ (by first | (simp; done) | omega | (simp; omega)) | exact Chg.refl _ _))))).mono ?_; rintro e w2 ⟨rfl, hb2⟩; have hS := kept_7 (S := fun _ => False) (Chg.of_below hb2) (by simp) (by first | with_reducible assumption | (refine kept_7 (S := fun _ => False) ?_ (by simp) hS; (repeat (first | with_reducible exact Chg.refl _ _ | with_reducible exact chg0 | with_reducible refine Chg.drewN ?_ _ | with_reducible refine Chg.drew ?_ | with_reducible refine Chg.alloc ?_ _ | with_reducible refine Chg.setCell ?_ _ _ (by first | (simp; done) | omega | (simp; omega)) | with_reducible refine Chg.setBlock ?_ _ _ (by first | (simp; done) | omega | (simp; omega)) | exact Chg.refl _ _)); done) | fail); (try (have hZ : ob w2 w1.heap.size = some (.cells #[.int .i64 0, .int .i64 0, .bool false, .bool false, .int .i64 0] 53 (0, 0)) := (Chg.of_below (S := fun _ => False) hb2).ob (by (first | (simp [go_sem]; done) | fail)) (fun h => h))); have HB2 := Lib.hid (below_trans (Chg.below (w := w1) (by repeat (first | with_reducible exact Chg.refl _ _ | with_reducible exact chg0 | with_reducible refine Chg.drewN ?_ _ | with_reducible refine Chg.drew ?_ | with_reducible refine Chg.alloc ?_ _ | with_reducible refine Chg.setCell ?_ _ _ (by first | (simp; done) | omega | (simp; omega)) | with_reducible refine Chg.setBlock ?_ _ _ (by first | (simp; done) | omega | (simp; omega)) | exact Chg.refl _ _))) hb2); have lz2 := HB2.out.size; have nF2 : ¬ noFp a FC q v1 v2 w2.heap.size := fun hf => absurd (HL.out _ hf) (Nat.not_lt.2 HB2.out.size); clear hb2)
        | (go_at_call 88; refine (HA.out _ (HN.out.node.cache.below (below_trans HB2.out (Chg.below (by repeat (first | with_reducible exact Chg.refl _ _ | with_reducible exact chg0 | with_reducible refine Chg.drewN ?_ _ | with_reducible refine Chg.drew ?_ | with_reducible refine Chg.alloc ?_ _ | with_reducible refine Chg.setCell ?_ _ _ (by first | (simp; done) | omega | (simp; omega)) | with_reducible refine Chg.setBlock ?_ _ _ (by first | (simp; done) | omega | (simp; omega)) | exact Chg.refl _ _)))))).mono ?_; rintro e w3 ⟨rfl, FC3, hC3, m3⟩; have hS := kept_7 m3.chg ⟨HNP.out, HNP.out, nFk, nFk, nFk, nFk, nFk⟩ (by first | with_reducible assumption | (refine kept_7 (S := fun _ => False) ?_ (by simp) hS; (repeat (first | with_reducible exact Chg.refl _ _ | with_reducible exact chg0 | with_reducible refine Chg.drewN ?_ _ | with_reducible refine Chg.drew ?_ | with_reducible refine Chg.alloc ?_ _ | with_reducible refine Chg.setCell ?_ _ _ (by first | (simp; done) | omega | (simp; omega)) | with_reducible refine Chg.setBlock ?_ _ _ (by first | (simp; done) | omega | (simp; omega)) | exact Chg.refl _ _)); done) | fail); have hQ := NO.cacheV m3 hC3 HN.out (below_trans HB2.out (Chg.below (by repeat (first | with_reducible exact Chg.refl _ _ | with_reducible exact chg0 | with_reducible refine Chg.drewN ?_ _ | with_reducible refine Chg.drew ?_ | with_reducible refine Chg.alloc ?_ _ | with_reducible refine Chg.setCell ?_ _ _ (by first | (simp; done) | omega | (simp; omega)) | with_reducible refine Chg.setBlock ?_ _ _ (by first | (simp; done) | omega | (simp; omega)) | exact Chg.refl _ _)))); (first | (have hZ3 : ob w3 w1.heap.size = some (.cells #[.int .i64 0, .int .i64 0, .bool false, .bool false, .int .i64 0] 53 (0, 0)) ∧ _ := hQ.2.1.aside (by (first | exact hZ | (simp [go_sem]; exact hZ) | fail)) nF1; obtain ⟨z0, z1, z2, z3, z4, zf⟩ := ob_cells5 hZ3.1; have lz3 := ob_lt hZ3.1; have HZ3 := Lib.hid hZ3; clear hZ3) | (have hZ3 : ob w3 w2.heap.size = some (.cells #[.int .i64 0, .int .i64 0, .bool false, .bool false, .int .i64 0] 53 (0, 0)) ∧ _ := hQ.2.1.aside (by (first | (simp [go_sem]; done) | fail)) nF2; obtain ⟨z0, z1, z2, z3, z4, zf⟩ := ob_cells5 hZ3.1; have lz3 := ob_lt hZ3.1; have HZ3 := Lib.hid hZ3; clear hZ3) | skip); have HQ := Lib.hid hQ; clear hQ; clear hC3 m3)
        | fail)
      all_goals (go_wp2_with fail)
      all_goals go_meet
      all_goals first
        | exact ⟨_, FC3, rfl, rfl, HQ.out.1.below (Chg.below (by repeat (first | with_reducible exact Chg.refl _ _ | with_reducible exact chg0 | with_reducible refine Chg.drewN ?_ _ | with_reducible refine Chg.drew ?_ | with_reducible refine Chg.alloc ?_ _ | with_reducible refine Chg.setCell ?_ _ _ (by first | (simp; done) | omega | (simp; omega)) | with_reducible refine Chg.setBlock ?_ _ _ (by first | (simp; done) | omega | (simp; omega)) | exact Chg.refl _ _))), HM.out.trans (HQ.out.2.2.trans (Moves.none (by repeat (first | with_reducible exact Chg.refl _ _ | with_reducible exact chg0 | with_reducible refine Chg.drewN ?_ _ | with_reducible refine Chg.drew ?_ | with_reducible refine Chg.alloc ?_ _ | with_reducible refine Chg.setCell ?_ _ _ (by first | (simp; done) | omega | (simp; omega)) | with_reducible refine Chg.setBlock ?_ _ _ (by first | (simp; done) | omega | (simp; omega)) | exact Chg.refl _ _)))), by simp [go_sem], fun hf => Nat.lt_irrefl _ (HQ.out.1.lt _ hf)⟩
        | exact ⟨_, FC3, rfl, rfl, (HQ.out.1.fin (HM.out.trans HQ.out.2.2) HZ3.out.2 (by omega) (by (repeat (first | with_reducible exact Chg.refl _ _ | with_reducible refine Chg.drewN ?_ _ | with_reducible refine Chg.drew ?_ | with_reducible refine Chg.alloc ?_ _ | with_reducible refine Chg.setCell ?_ _ _ (fun _ => rfl))))).1, (HQ.out.1.fin (HM.out.trans HQ.out.2.2) HZ3.out.2 (by omega) (by (repeat (first | with_reducible exact Chg.refl _ _ | with_reducible refine Chg.drewN ?_ _ | with_reducible refine Chg.drew ?_ | with_reducible refine Chg.alloc ?_ _ | with_reducible refine Chg.setCell ?_ _ _ (fun _ => rfl))))).2, by simp [go_sem, HZ3.out.1, lz3, setAt], HZ3.out.2⟩
        | fail
    case rest =>
      obtain ⟨k, FC', rfl, rfl, hR4, hM4, ho4, hn4⟩ := hcut
      have HR4 := Lib.hid hR4
      have HM4 := Lib.hid hM4
      have HO4 := Lib.hid ho4
      have HN4 := Lib.hid hn4
      obtain ⟨c0, c1, c2, c3, c4, c5, c6, c7, c8, c9, c10, c11, c12, c13, c14, cf, cl⟩ := hR4.node.cells
      obtain ⟨z0, z1, z2, z3, z4, zf⟩ := ob_cells5 ho4
      have lz := ob_lt ho4
      clear hR4 hM4 ho4 hn4
      obtain ⟨ac, ⟨⟨ab_, at_⟩, ag⟩⟩ := ab
      cases ag
      · go_wp2_with fail
        refine (settle_calls HR4.out.run (by omega) (by omega)).mono ?_
        rintro e w7 ⟨rfl, F7, hR7, m7⟩
        go_wp2_with fail
        go_end0
        rw [HS.out]
        exact ⟨rfl, F7, by simpa using hR7, HM4.out.trans m7⟩
      · have HT2 := Lib.hid (fun V => LTokens_calls n.id n.c.nodes ab_ at_ V)
        simp only [Bundle.val, Bundle.cells] at HT2
        go_upto_region 6 with fail
        go_cut [] (fun wx => ∃ v3, NO wx a { n with cache := ac } FC' q v3 v2 (L ++ [Letter.tok n.id n.c.nodes ab_ at_]) D ∧ Moves w wx (noFp a FC q v1 v2) (noFp a FC' q v3 v2))
        case first =>
          have hS : wc.cell? ⟨a.p, 9, none⟩ = some (.int .i64 n.id) ∧ wc.cell? ⟨a.p, 0, none⟩ = some (.int .i64 n.c.nodes) ∧ wc.cell? ⟨k, 0, none⟩ = some (.int .i64 ab_) ∧ wc.cell? ⟨k, 1, none⟩ = some (.int .i64 at_.count) ∧ wc.cell? ⟨k, 2, none⟩ = some (.bool at_.owner) ∧ wc.cell? ⟨k, 3, none⟩ = some (.bool at_.has) ∧ wc.cell? ⟨k, 4, none⟩ = some (.int .i64 at_.data) := ⟨c9, c0, z0, z1, z2, z3, z4⟩
          clear c0 c1 c2 c3 c4 c5 c6 c7 c8 c9 c10 c11 c12 c13 c14 cf z0 z1 z2 z3 z4 zf
          go_region_held3 (fun V => V.cell? ⟨a.p, 9, none⟩ = some (.int .i64 n.id) ∧ V.cell? ⟨a.p, 0, none⟩ = some (.int .i64 n.c.nodes) ∧ V.cell? ⟨k, 0, none⟩ = some (.int .i64 ab_) ∧ V.cell? ⟨k, 1, none⟩ = some (.int .i64 at_.count) ∧ V.cell? ⟨k, 2, none⟩ = some (.bool at_.owner) ∧ V.cell? ⟨k, 3, none⟩ = some (.bool at_.has) ∧ V.cell? ⟨k, 4, none⟩ = some (.int .i64 at_.data)) (first | with_reducible assumption | (refine kept_7 (S := fun _ => False) ?_ (by simp) hS; (repeat (first | with_reducible exact Chg.refl _ _ | with_reducible exact chg0 | with_reducible refine Chg.drewN ?_ _ | with_reducible refine Chg.drew ?_ | with_reducible refine Chg.alloc ?_ _ | with_reducible refine Chg.setCell ?_ _ _ (by first | (simp; done) | omega | (simp; omega)) | with_reducible refine Chg.setBlock ?_ _ _ (by first | (simp; done) | omega | (simp; omega)) | exact Chg.refl _ _)); done) | fail) (first
            | (go_at_call 87; refine (HT2.out _).mono ?_; rintro e w5 ⟨rfl, hb5⟩; have hS := kept_7 (S := fun _ => False) (Chg.of_below hb5) (by simp) (by first | with_reducible assumption | (refine kept_7 (S := fun _ => False) ?_ (by simp) hS; (repeat (first | with_reducible exact Chg.refl _ _ | with_reducible exact chg0 | with_reducible refine Chg.drewN ?_ _ | with_reducible refine Chg.drew ?_ | with_reducible refine Chg.alloc ?_ _ | with_reducible refine Chg.setCell ?_ _ _ (by first | (simp; done) | omega | (simp; omega)) | with_reducible refine Chg.setBlock ?_ _ _ (by first | (simp; done) | omega | (simp; omega)) | exact Chg.refl _ _)); done) | fail); have HB5 := Lib.hid (below_trans (Chg.below (w := wc) (by repeat (first | with_reducible exact Chg.refl _ _ | with_reducible exact chg0 | with_reducible refine Chg.drewN ?_ _ | with_reducible refine Chg.drew ?_ | with_reducible refine Chg.alloc ?_ _ | with_reducible refine Chg.setCell ?_ _ _ (by first | (simp; done) | omega | (simp; omega)) | with_reducible refine Chg.setBlock ?_ _ _ (by first | (simp; done) | omega | (simp; omega)) | exact Chg.refl _ _))) hb5); clear hb5; simp only [Letter.val, Letter.cells, Letter.tok])
            | (go_at_call 50; have hb6 := Lib.hid (below_trans HB5.out (Chg.below (by repeat (first | with_reducible exact Chg.refl _ _ | with_reducible exact chg0 | with_reducible refine Chg.drewN ?_ _ | with_reducible refine Chg.drew ?_ | with_reducible refine Chg.alloc ?_ _ | with_reducible refine Chg.setCell ?_ _ _ (by first | (simp; done) | omega | (simp; omega)) | with_reducible refine Chg.setBlock ?_ _ _ (by first | (simp; done) | omega | (simp; omega)) | exact Chg.refl _ _)))); refine (NO.send (Letter.tok n.id n.c.nodes ab_ at_) (HR4.out.below hb6.out) (by omega)).mono ?_; rintro e w6 ⟨rfl, v3, hR6, m6⟩; have hS : w6.cell? ⟨a.p, 9, none⟩ = some (.int .i64 n.id) ∧ w6.cell? ⟨a.p, 0, none⟩ = some (.int .i64 n.c.nodes) ∧ w6.cell? ⟨k, 0, none⟩ = some (.int .i64 ab_) ∧ w6.cell? ⟨k, 1, none⟩ = some (.int .i64 at_.count) ∧ w6.cell? ⟨k, 2, none⟩ = some (.bool at_.owner) ∧ w6.cell? ⟨k, 3, none⟩ = some (.bool at_.has) ∧ w6.cell? ⟨k, 4, none⟩ = some (.int .i64 at_.data) := ⟨hR6.node.cells.2.2.2.2.2.2.2.2.2.1, hR6.node.cells.1, cell_ob (m6.aside (ob_step hb6.out HO4.out) HN4.out).1 0, cell_ob (m6.aside (ob_step hb6.out HO4.out) HN4.out).1 1, cell_ob (m6.aside (ob_step hb6.out HO4.out) HN4.out).1 2, cell_ob (m6.aside (ob_step hb6.out HO4.out) HN4.out).1 3, cell_ob (m6.aside (ob_step hb6.out HO4.out) HN4.out).1 4⟩; have HR6 := Lib.hid hR6; have HM6 := Lib.hid (HM4.out.trans ((Moves.none (Chg.of_below hb6.out)).trans m6)); clear hR6 m6)
            | fail)
          all_goals (go_wp2_with fail)
          all_goals go_meet
          all_goals exact ⟨v3, HR6.out.below (Chg.below (by repeat (first | with_reducible exact Chg.refl _ _ | with_reducible exact chg0 | with_reducible refine Chg.drewN ?_ _ | with_reducible refine Chg.drew ?_ | with_reducible refine Chg.alloc ?_ _ | with_reducible refine Chg.setCell ?_ _ _ (by first | (simp; done) | omega | (simp; omega)) | with_reducible refine Chg.setBlock ?_ _ _ (by first | (simp; done) | omega | (simp; omega)) | exact Chg.refl _ _))), HM6.out.trans (Moves.none (by repeat (first | with_reducible exact Chg.refl _ _ | with_reducible exact chg0 | with_reducible refine Chg.drewN ?_ _ | with_reducible refine Chg.drew ?_ | with_reducible refine Chg.alloc ?_ _ | with_reducible refine Chg.setCell ?_ _ _ (by first | (simp; done) | omega | (simp; omega)) | with_reducible refine Chg.setBlock ?_ _ _ (by first | (simp; done) | omega | (simp; omega)) | exact Chg.refl _ _)))⟩
        case rest =>
          obtain ⟨v3, hR6, hM6⟩ := hcut
          go_wp2_with fail
          refine (settle_calls hR6.run (by simp; omega) (by omega)).mono ?_
          rintro e w7 ⟨rfl, F7, hR7, m7⟩
          go_wp2_with fail
          go_end0
          rw [HS.out]
          exact ⟨rfl, F7, by simpa using hR7, hM6.trans m7⟩
  · have hS : w1.cell? ⟨a.p, 9, none⟩ = some (.int .i64 n.id) ∧ w1.cell? ⟨w.heap.size, 3, none⟩ = some (.int .i64 l.block) ∧ w1.cell? ⟨w.heap.size, 7, none⟩ = some (.int .i64 l.tokens.count) ∧ w1.cell? ⟨w.heap.size, 8, none⟩ = some (.bool l.tokens.owner) ∧ w1.cell? ⟨w.heap.size, 9, none⟩ = some (.bool l.tokens.has) ∧ w1.cell? ⟨w.heap.size, 10, none⟩ = some (.int .i64 l.tokens.data) := ⟨c9, x3, x7, x8, x9, x10⟩
    clear c0 c1 c2 c3 c4 c5 c6 c7 c8 c9 c10 c11 c12 c13 c14 cf x0 x1 x2 x3 x4 x5 x6 x7 x8 x9 x10
    go_upto_region 3 with fail
    go_region_held3 (fun V => V.cell? ⟨a.p, 9, none⟩ = some (.int .i64 n.id) ∧ V.cell? ⟨w.heap.size, 3, none⟩ = some (.int .i64 l.block) ∧ V.cell? ⟨w.heap.size, 7, none⟩ = some (.int .i64 l.tokens.count) ∧ V.cell? ⟨w.heap.size, 8, none⟩ = some (.bool l.tokens.owner) ∧ V.cell? ⟨w.heap.size, 9, none⟩ = some (.bool l.tokens.has) ∧ V.cell? ⟨w.heap.size, 10, none⟩ = some (.int .i64 l.tokens.data)) (first | with_reducible assumption | (refine kept_6 (S := fun _ => False) ?_ (by simp) hS; (repeat (first | with_reducible exact Chg.refl _ _ | with_reducible exact chg0 | with_reducible refine Chg.drewN ?_ _ | with_reducible refine Chg.drew ?_ | with_reducible refine Chg.alloc ?_ _ | with_reducible refine Chg.setCell ?_ _ _ (by first | (simp; done) | omega | (simp; omega)) | with_reducible refine Chg.setBlock ?_ _ _ (by first | (simp; done) | omega | (simp; omega)) | exact Chg.refl _ _)); done) | fail) (first
      | (go_at_call 87; refine (HT.out _).mono ?_; rintro e w2 ⟨rfl, hb2⟩; have hS := kept_6 (S := fun _ => False) (Chg.of_below hb2) (by simp) (by first | with_reducible assumption | (refine kept_6 (S := fun _ => False) ?_ (by simp) hS; (repeat (first | with_reducible exact Chg.refl _ _ | with_reducible exact chg0 | with_reducible refine Chg.drewN ?_ _ | with_reducible refine Chg.drew ?_ | with_reducible refine Chg.alloc ?_ _ | with_reducible refine Chg.setCell ?_ _ _ (by first | (simp; done) | omega | (simp; omega)) | with_reducible refine Chg.setBlock ?_ _ _ (by first | (simp; done) | omega | (simp; omega)) | exact Chg.refl _ _)); done) | fail); have HB2 := Lib.hid (below_trans (Chg.below (w := w1) (by repeat (first | with_reducible exact Chg.refl _ _ | with_reducible exact chg0 | with_reducible refine Chg.drewN ?_ _ | with_reducible refine Chg.drew ?_ | with_reducible refine Chg.alloc ?_ _ | with_reducible refine Chg.setCell ?_ _ _ (by first | (simp; done) | omega | (simp; omega)) | with_reducible refine Chg.setBlock ?_ _ _ (by first | (simp; done) | omega | (simp; omega)) | exact Chg.refl _ _))) hb2); clear hb2; simp only [Letter.val, Letter.cells, Letter.tok])
      | (go_at_call 50; have hb3 := Lib.hid (below_trans HB2.out (Chg.below (by repeat (first | with_reducible exact Chg.refl _ _ | with_reducible exact chg0 | with_reducible refine Chg.drewN ?_ _ | with_reducible refine Chg.drew ?_ | with_reducible refine Chg.alloc ?_ _ | with_reducible refine Chg.setCell ?_ _ _ (by first | (simp; done) | omega | (simp; omega)) | with_reducible refine Chg.setBlock ?_ _ _ (by first | (simp; done) | omega | (simp; omega)) | exact Chg.refl _ _)))); refine (NO.send (Letter.tok n.id nd l.block l.tokens) (HN.out.below hb3.out) (by omega)).mono ?_; rintro e w3 ⟨rfl, v3, hR3, m3⟩; have hS : w3.cell? ⟨a.p, 9, none⟩ = some (.int .i64 n.id) ∧ w3.cell? ⟨w.heap.size, 3, none⟩ = some (.int .i64 l.block) ∧ w3.cell? ⟨w.heap.size, 7, none⟩ = some (.int .i64 l.tokens.count) ∧ w3.cell? ⟨w.heap.size, 8, none⟩ = some (.bool l.tokens.owner) ∧ w3.cell? ⟨w.heap.size, 9, none⟩ = some (.bool l.tokens.has) ∧ w3.cell? ⟨w.heap.size, 10, none⟩ = some (.int .i64 l.tokens.data) := ⟨hR3.node.cells.2.2.2.2.2.2.2.2.2.1, cell_ob (m3.aside (ob_step hb3.out OL.out) NB.out).1 3, cell_ob (m3.aside (ob_step hb3.out OL.out) NB.out).1 7, cell_ob (m3.aside (ob_step hb3.out OL.out) NB.out).1 8, cell_ob (m3.aside (ob_step hb3.out OL.out) NB.out).1 9, cell_ob (m3.aside (ob_step hb3.out OL.out) NB.out).1 10⟩; have HR3 := Lib.hid hR3; have HM3 := Lib.hid (HM.out.trans ((Moves.none (Chg.of_below hb3.out)).trans m3)); clear hR3 m3)
      | fail)
    all_goals
      go_wp2_with fail
      refine bodyPost_ret (v := .tuple #[]) (results_none rfl _ _ _) rfl ?_
      rw [HS.out, if_pos (by trivial)]
      exact ⟨rfl, _, by simpa using (HR3.out.below (Chg.below (by repeat (first | with_reducible exact Chg.refl _ _ | with_reducible exact chg0 | with_reducible refine Chg.drewN ?_ _ | with_reducible refine Chg.drew ?_ | with_reducible refine Chg.alloc ?_ _ | with_reducible refine Chg.setCell ?_ _ _ (by first | (simp; done) | omega | (simp; omega)) | with_reducible refine Chg.setBlock ?_ _ _ (by first | (simp; done) | omega | (simp; omega)) | exact Chg.refl _ _)))).run, HM3.out.trans (Moves.none (by repeat (first | with_reducible exact Chg.refl _ _ | with_reducible exact chg0 | with_reducible refine Chg.drewN ?_ _ | with_reducible refine Chg.drew ?_ | with_reducible refine Chg.alloc ?_ _ | with_reducible refine Chg.setCell ?_ _ _ (by first | (simp; done) | omega | (simp; omega)) | with_reducible refine Chg.setBlock ?_ _ _ (by first | (simp; done) | omega | (simp; omega)) | exact Chg.refl _ _)))⟩
end
end Go.Proofs.YtchlioikkhnidaaGreat
