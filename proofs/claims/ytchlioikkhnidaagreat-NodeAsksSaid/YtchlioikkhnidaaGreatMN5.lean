/-
  The program's node: what can be done is done.
-/
import Derived.Test.YtchlioikkhnidaaGreatMN4
import Derived.Test.YtchlioikkhnidaaGreatMH
import Derived.StillTailTactics
import Derived.Test.YtchlioikkhnidaaGreatMN3
set_option linter.unusedVariables false
set_option linter.unusedSimpArgs false
namespace Go.Proofs.YtchlioikkhnidaaGreat
open Go.RowKit Go.Sort Go.ChangeShapes Go.WideShapes Go.ChangeAt
open Go.ChangeMaps (setBlock)
set_option linter.unusedVariables false
set_option linter.unusedSimpArgs false
section
variable {w w' w'' : World} {a : NAddr} {q : Nat} {n n' : Node} {L L' : List Letter} {D D' : List Done} {F F' FC : Nat → Prop} {v1 v2 : Value}

theorem OutIn.putD {w5 Wf : World} {A2 A5 : Option Addr} {n2 c2 n5 c5 : Nat} {d : Done} (h : OutIn w q v1 (.slice A2 n2 c2) L D) (hcc : Chg (fun j => (Value.slice A2 n2 c2).ownBlock = some j) w w5) (ho : OwnSl w5 60 7 (.slice A5 n5 c5) ((D ++ [d]).map Done.cells))
    (hloc : ∀ j, (Value.slice A5 n5 c5).ownBlock = some j → (Value.slice A2 n2 c2).ownBlock = some j ∨ w.heap.size ≤ j) (hf : Chg (fun j => j = q) w5 Wf) (hq : ob Wf q = some (.cells #[v1, .slice A5 n5 c5] 35 (0, 0))) :
    OutIn Wf q v1 (.slice A5 n5 c5) L (D ++ [d]) ∧ Moves w Wf (outFp q v1 (.slice A2 n2 c2)) (outFp q v1 (.slice A5 n5 c5)) := by
  obtain ⟨e1, e2, e3⟩ := h.ne
  have lq := ob_lt h.at_
  have n5q : ∀ k, (Value.slice A5 n5 c5).ownBlock = some k → ¬ k = q := fun k hk e => by
    rcases hloc k hk with h' | h'
    · exact e2 k h' e
    · omega
  refine ⟨⟨hq, (h.letters.chg hcc fun k hk hk' => e3 k hk hk').chg hf fun k hk e => e1 k hk e, ho.chg hf n5q⟩, (hcc.mono fun j _ h => .inr (.inr h)).trans hf fun j _ e => .inl e, ?_⟩
  rintro j (hj | hj | hj)
  · exact .inl (.inl hj)
  · exact .inl (.inr (.inl hj))
  · exact (hloc j hj).imp (fun h => .inr (.inr h)) id
/-- A box beside the node at work. -/
theorem Run.aside {b : Nat} {o : Obj} (m : Moves w w' F F') (hb : ob w b = some o) (hn : ¬ F b) : ob w' b = some o ∧ ¬ F' b := m.aside hb hn

theorem keepSe {S : Nat → Prop} {p k : Nat} {v1 v2 v3 v4 v5 : Value} (hc : Chg S w w') (h1 : ¬ S p) (h2 : ¬ S k)
    (h : w.cell? ⟨p, 10, none⟩ = some v1 ∧ w.cell? ⟨p, 2, none⟩ = some v2 ∧ w.cell? ⟨k, 0, none⟩ = some v3 ∧ w.cell? ⟨k, 1, none⟩ = some v4 ∧ w.cell? ⟨k, 2, none⟩ = some v5) :
    w'.cell? ⟨p, 10, none⟩ = some v1 ∧ w'.cell? ⟨p, 2, none⟩ = some v2 ∧ w'.cell? ⟨k, 0, none⟩ = some v3 ∧ w'.cell? ⟨k, 1, none⟩ = some v4 ∧ w'.cell? ⟨k, 2, none⟩ = some v5 :=
  ⟨hc.cell h.1 h1, hc.cell h.2.1 h1, hc.cell h.2.2.1 h2, hc.cell h.2.2.2.1 h2, hc.cell h.2.2.2.2 h2⟩
theorem settleDo {V : World} {c' : CacheM} {FC' : Nat → Prop} {k : Nat} {o : Obj} (h : NodeIn w a n FC) (hl : ∀ w' n' FC', NodeIn w' a n' FC' → Moves w w' (nFp a FC) (nFp a FC') → ∃ F', Run w' a q n' L D F' ∧ Moves w w' F F')
    (hc : Chg (fun _ => False) w V) (h1 : CacheAt w' a.lp c' FC') (mv : Moves V w' FC FC') (ho : ob w k = some o) (hk : ¬ FC k) :
    ∃ F', Run w' a q { n with cache := c' } L D F' ∧ Moves w w' F F' ∧ ob w' k = some o ∧ (¬ F k → ¬ F' k) := by
  obtain ⟨g1, g2⟩ := (h.chg hc fun _ _ h => h).cacheL h1 mv
  obtain ⟨F', hR, hm⟩ := hl _ _ _ g1 ((Moves.none hc).trans g2)
  have ob' : ob w' k = some o := mv.chg.ob (hc.ob ho (fun h => h)) hk
  exact ⟨F', hR, hm, ob', fun hn => (hm.aside ho hn).2⟩

theorem settlePut {w0 w5 Wf : World} {F0 : Nat → Prop} {A2 A5 : Option Addr} {n2 c2 n5 c5 k : Nat} {o : Obj} {d : Done} (h : OutIn w q v1 (.slice A2 n2 c2) L D)
    (hl : ∀ w' v1' v2' L' D', OutIn w' q v1' v2' L' D' → Moves w w' (outFp q v1 (.slice A2 n2 c2)) (outFp q v1' v2') → ∃ F', Run w' a q n L' D' F' ∧ Moves w w' F F') (m0 : Moves w0 w F0 F) (ho' : ob w k = some o) (hk : ¬ F k)
    (hcc : Chg (fun j => (Value.slice A2 n2 c2).ownBlock = some j) w w5) (ho : OwnSl w5 60 7 (.slice A5 n5 c5) ((D ++ [d]).map Done.cells))
    (hloc : ∀ j, (Value.slice A5 n5 c5).ownBlock = some j → (Value.slice A2 n2 c2).ownBlock = some j ∨ w.heap.size ≤ j) (hf : Chg (fun j => j = q) w5 Wf) (hq : ob Wf q = some (.cells #[v1, .slice A5 n5 c5] 35 (0, 0))) :
    ∃ F', Run Wf a q n L (D ++ [d]) F' ∧ Moves w0 Wf F0 F' ∧ ob Wf k = some o ∧ ¬ F' k := by
  obtain ⟨g1, g2⟩ := h.putD hcc ho hloc hf hq
  obtain ⟨F', hR, m⟩ := hl _ _ _ _ _ g1 g2
  exact ⟨F', hR, m0.trans m, m.aside ho' hk⟩

set_option maxHeartbeats 8000000 in
set_option maxRecDepth 20000 in
theorem settle_calls (h : Run w a q n L D F) (hl : L.length ≤ 1000000) (hd : D.length ≤ 1000000) :
    Calls Tryz.prog 33 #[.pointer (some ⟨a.p, 0, none⟩), .pointer (some ⟨q, 0, none⟩)] w fun e w' => e = .returned (.tuple #[]) ∧ ∃ F', Run w' a q n.settle.1 (L ++ n.settle.2.1) (D ++ n.settle.2.2) F' ∧ Moves w w' F F' := by
  have H := Lib.hid h
  obtain ⟨FC, hN, hNF, hNL⟩ := h.node
  have HN := Lib.hid hN
  have HF := Lib.hid h.lt
  have HNF := Lib.hid hNF
  obtain ⟨c0, c1, c2, c3, c4, c5, c6, c7, c8, c9, c10, c11, c12, c13, c14, cf, cl⟩ := hN.cells
  have hset : n.settle = if n.cpu.busy = false then (n, [], []) else if (n.cache.does n.cpu.op n.c.tokens).2.2 = false then (n, [], []) else
      (({ n with cache := (n.cache.does n.cpu.op n.c.tokens).1, cpu := n.cpu.finish.1 } : Node).endL n.cpu.op.block).1 |> fun x => (x, (({ n with cache := (n.cache.does n.cpu.op n.c.tokens).1, cpu := n.cpu.finish.1 } : Node).endL n.cpu.op.block).2, [⟨n.id, n.cpu.number, n.cpu.op, (n.cache.does n.cpu.op n.c.tokens).2.1, 0⟩]) := rfl
  have HS := Lib.hid hset
  clear h hset hNF hNL hN
  go_enter Tryz.func33, Tryz.ntmps33
  go_wp2_with fail
  refine (Pending_calls (HN.out.cpu.below (Chg.below (by repeat (first | with_reducible exact Chg.refl _ _ | with_reducible exact chg0 | with_reducible refine Chg.drewN ?_ _ | with_reducible refine Chg.drew ?_ | with_reducible refine Chg.alloc ?_ _ | with_reducible refine Chg.setCell ?_ _ _ (by first | (simp; done) | omega | (simp; omega)) | with_reducible refine Chg.setBlock ?_ _ _ (by first | (simp; done) | omega | (simp; omega)) | exact Chg.refl _ _))))).mono ?_
  rintro e w1 ⟨rfl, hb1⟩
  have bw1 : Below w.heap.size w w1 := below_trans (Chg.below (by repeat (first | with_reducible exact Chg.refl _ _ | with_reducible exact chg0 | with_reducible refine Chg.drewN ?_ _ | with_reducible refine Chg.drew ?_ | with_reducible refine Chg.alloc ?_ _ | with_reducible refine Chg.setCell ?_ _ _ (by first | (simp; done) | omega | (simp; omega)) | with_reducible refine Chg.setBlock ?_ _ _ (by first | (simp; done) | omega | (simp; omega)) | exact Chg.refl _ _))) hb1
  have BW := Lib.hid bw1
  obtain ⟨bz, hbz⟩ : ∃ b, b = n.cpu.busy := ⟨_, rfl⟩
  rw [← hbz]
  have HBZ := Lib.hid hbz
  clear hb1 c0 c1 c2 c3 c4 c5 c6 c7 c8 c9 c10 c11 c12 c13 c14 cf cl bw1 hbz
  simp only [Op.val, Op.cells]
  obtain ⟨c0, c1, c2, c3, c4, c5, c6, c7, c8, c9, c10, c11, c12, c13, c14, cf, cl⟩ := (HN.out.below BW.out).cells
  cases bz
  · go_wp2_with fail
    refine bodyPost_ret (v := .tuple #[]) (results_none rfl _ _ _) rfl ?_
    rw [HS.out, if_pos HBZ.out.symm]
    exact ⟨rfl, F, by simpa using H.out.below (below_trans BW.out (Chg.below (by repeat (first | with_reducible exact Chg.refl _ _ | with_reducible exact chg0 | with_reducible refine Chg.drewN ?_ _ | with_reducible refine Chg.drew ?_ | with_reducible refine Chg.alloc ?_ _ | with_reducible refine Chg.setCell ?_ _ _ (by first | (simp; done) | omega | (simp; omega)) | with_reducible refine Chg.setBlock ?_ _ _ (by first | (simp; done) | omega | (simp; omega)) | exact Chg.refl _ _)))), Moves.none ((Chg.of_below BW.out).trans (S' := fun _ => False) (by repeat (first | with_reducible exact Chg.refl _ _ | with_reducible exact chg0 | with_reducible refine Chg.drewN ?_ _ | with_reducible refine Chg.drew ?_ | with_reducible refine Chg.alloc ?_ _ | with_reducible refine Chg.setCell ?_ _ _ (by first | (simp; done) | omega | (simp; omega)) | with_reducible refine Chg.setBlock ?_ _ _ (by first | (simp; done) | omega | (simp; omega)) | exact Chg.refl _ _)) (fun _ _ h => h))⟩
  · go_wp2_with fail
    obtain ⟨W, hW⟩ : ∃ W, W = (w1.alloc (Obj.cells #[Value.int IntKind.i64 n.cpu.op.block, Value.bool n.cpu.op.write, Value.int IntKind.i64 n.cpu.op.value] 25)) := ⟨_, rfl⟩
    rw [← hW]
    have bW : Below w1.heap.size w1 W := by rw [hW]; exact Chg.below (by repeat (first | with_reducible exact Chg.refl _ _ | with_reducible exact chg0 | with_reducible refine Chg.drewN ?_ _ | with_reducible refine Chg.drew ?_ | with_reducible refine Chg.alloc ?_ _ | with_reducible refine Chg.setCell ?_ _ _ (by first | (simp; done) | omega | (simp; omega)) | with_reducible refine Chg.setBlock ?_ _ _ (by first | (simp; done) | omega | (simp; omega)) | exact Chg.refl _ _))
    have oW : ob W w1.heap.size = some (.cells #[Value.int IntKind.i64 n.cpu.op.block, Value.bool n.cpu.op.write, Value.int IntKind.i64 n.cpu.op.value] 25 (0, 0)) := by rw [hW]; simp [go_sem]
    have nB : ¬ F w1.heap.size := fun hf => by have := HF.out _ hf; have := BW.out.size; omega
    have HR := Lib.hid (H.out.below (below_trans BW.out bW))
    have HM := Lib.hid (Moves.none (F := F) ((Chg.of_below (below_trans BW.out bW)).trans (S' := fun _ => False) (Chg.refl _ _) (fun _ _ h => h)))
    clear hW c0 c1 c2 c3 c4 c5 c6 c7 c8 c9 c10 c11 c12 c13 c14 cf cl
    obtain ⟨FC2, hN2, hNF2, hNL2⟩ := HR.out.node
    obtain ⟨d, hd⟩ : ∃ d, d = n.cache.does n.cpu.op n.c.tokens := ⟨_, rfl⟩
    have hD := CacheDo_calls n.cpu.op n.c.tokens (w := W) (p := a.lp) (c := n.cache) (F := FC2)
    have HDO := Lib.hid (fun V (hV : CacheAt V a.lp n.cache FC2) => CacheDo_calls n.cpu.op n.c.tokens hV)
    rw [← hd] at HS HDO
    have HDC := Lib.hid (show d.2.2 = false → d.1 = n.cache from by
      rw [hd, show n.cache.does n.cpu.op n.c.tokens = if (n.cache.tok n.cpu.op.block).may n.cpu.op.write n.c.tokens = true then ((n.cache.set n.cpu.op.block ((n.cache.tok n.cpu.op.block).done n.cpu.op)).use n.cpu.op.block, ((n.cache.tok n.cpu.op.block).done n.cpu.op).data, true) else (n.cache, 0, false) from rfl]
      split <;> simp)
    clear hD
    have HN2 := Lib.hid hN2
    have HL2 := Lib.hid hNL2
    have nP : ¬ FC2 a.p := hN2.apart _ (by simp [NAddr.list])
    have nK : ¬ FC2 w1.heap.size := fun hf => nB (hNF2 _ (.inr hf))
    have NP := Lib.hid nP
    have NK := Lib.hid nK
    have hS : W.cell? ⟨a.p, 10, none⟩ = some (.pointer (some ⟨a.lp, 0, none⟩)) ∧ W.cell? ⟨a.p, 2, none⟩ = some (.int .i64 n.c.tokens) ∧ W.cell? ⟨w1.heap.size, 0, none⟩ = some (.int .i64 n.cpu.op.block) ∧ W.cell? ⟨w1.heap.size, 1, none⟩ = some (.bool n.cpu.op.write) ∧ W.cell? ⟨w1.heap.size, 2, none⟩ = some (.int .i64 n.cpu.op.value) := ⟨hN2.cells.2.2.2.2.2.2.2.2.2.2.1, hN2.cells.2.2.1, cell_ob oW 0, cell_ob oW 1, cell_ob oW 2⟩
    have OW := Lib.hid oW
    have lkW := ob_lt oW
    clear hN2 hNL2 hNF2 nP nK oW hd
    simp only [Op.val, Op.cells] at HDO
    go_upto_region 3 with fail
    go_cut [5, 6] (fun s5 s6 wx => s5 = .bool d.2.2 ∧ s6 = .int .i64 d.2.1 ∧ ∃ F', Run wx a q { n with cache := d.1 } L D F' ∧ Moves w wx F F' ∧ ob wx w1.heap.size = some (.cells #[Value.int IntKind.i64 n.cpu.op.block, Value.bool n.cpu.op.write, Value.int IntKind.i64 n.cpu.op.value] 25 (0, 0)) ∧ ¬ F' w1.heap.size)
    case first =>
      go_region_held3 (fun V => V.cell? ⟨a.p, 10, none⟩ = some (.pointer (some ⟨a.lp, 0, none⟩)) ∧ V.cell? ⟨a.p, 2, none⟩ = some (.int .i64 n.c.tokens) ∧ V.cell? ⟨w1.heap.size, 0, none⟩ = some (.int .i64 n.cpu.op.block) ∧ V.cell? ⟨w1.heap.size, 1, none⟩ = some (.bool n.cpu.op.write) ∧ V.cell? ⟨w1.heap.size, 2, none⟩ = some (.int .i64 n.cpu.op.value)) (first | assumption | (refine keepSe (S := fun _ => False) ?_ (fun h => h) (fun h => h) hS; (repeat (first | with_reducible exact Chg.refl _ _ | with_reducible exact chg0 | with_reducible refine Chg.drewN ?_ _ | with_reducible refine Chg.drew ?_ | with_reducible refine Chg.alloc ?_ _ | with_reducible refine Chg.setCell ?_ _ _ (by first | (simp; done) | omega | (simp; omega)) | with_reducible refine Chg.setBlock ?_ _ _ (by first | (simp; done) | omega | (simp; omega)) | exact Chg.refl _ _)); done) | fail) (first
        | (go_at_call 78; refine (HDO.out _ (HN2.out.cache.below (Chg.below (by repeat (first | with_reducible exact Chg.refl _ _ | with_reducible exact chg0 | with_reducible refine Chg.drewN ?_ _ | with_reducible refine Chg.drew ?_ | with_reducible refine Chg.alloc ?_ _ | with_reducible refine Chg.setCell ?_ _ _ (by first | (simp; done) | omega | (simp; omega)) | with_reducible refine Chg.setBlock ?_ _ _ (by first | (simp; done) | omega | (simp; omega)) | exact Chg.refl _ _))))).mono ?_; rintro e w3 ⟨rfl, FC3, hC3, m3⟩; have hQ := settleDo HN2.out HL2.out (by repeat (first | with_reducible exact Chg.refl _ _ | with_reducible exact chg0 | with_reducible refine Chg.drewN ?_ _ | with_reducible refine Chg.drew ?_ | with_reducible refine Chg.alloc ?_ _ | with_reducible refine Chg.setCell ?_ _ _ (by first | (simp; done) | omega | (simp; omega)) | with_reducible refine Chg.setBlock ?_ _ _ (by first | (simp; done) | omega | (simp; omega)) | exact Chg.refl _ _)) hC3 m3 OW.out NK.out; obtain ⟨F3, hR3, mm3, ho3, nF3⟩ := hQ; have hS := keepSe m3.chg NP.out NK.out (by first | assumption | (refine keepSe (S := fun _ => False) ?_ (fun h => h) (fun h => h) hS; (repeat (first | with_reducible exact Chg.refl _ _ | with_reducible exact chg0 | with_reducible refine Chg.drewN ?_ _ | with_reducible refine Chg.drew ?_ | with_reducible refine Chg.alloc ?_ _ | with_reducible refine Chg.setCell ?_ _ _ (by first | (simp; done) | omega | (simp; omega)) | with_reducible refine Chg.setBlock ?_ _ _ (by first | (simp; done) | omega | (simp; omega)) | exact Chg.refl _ _)); done) | fail); clear hC3 m3)
        | fail)
      all_goals (go_wp2_with fail)
      all_goals go_meet
      all_goals exact ⟨rfl, rfl, F3, hR3.below (Chg.below (by repeat (first | with_reducible exact Chg.refl _ _ | with_reducible exact chg0 | with_reducible refine Chg.drewN ?_ _ | with_reducible refine Chg.drew ?_ | with_reducible refine Chg.alloc ?_ _ | with_reducible refine Chg.setCell ?_ _ _ (by first | (simp; done) | omega | (simp; omega)) | with_reducible refine Chg.setBlock ?_ _ _ (by first | (simp; done) | omega | (simp; omega)) | exact Chg.refl _ _))), HM.out.trans (mm3.trans (Moves.none (by repeat (first | with_reducible exact Chg.refl _ _ | with_reducible exact chg0 | with_reducible refine Chg.drewN ?_ _ | with_reducible refine Chg.drew ?_ | with_reducible refine Chg.alloc ?_ _ | with_reducible refine Chg.setCell ?_ _ _ (by first | (simp; done) | omega | (simp; omega)) | with_reducible refine Chg.setBlock ?_ _ _ (by first | (simp; done) | omega | (simp; omega)) | exact Chg.refl _ _)))), (Chg.of_below (S := fun _ => False) (Chg.below (by repeat (first | with_reducible exact Chg.refl _ _ | with_reducible exact chg0 | with_reducible refine Chg.drewN ?_ _ | with_reducible refine Chg.drew ?_ | with_reducible refine Chg.alloc ?_ _ | with_reducible refine Chg.setCell ?_ _ _ (by first | (simp; done) | omega | (simp; omega)) | with_reducible refine Chg.setBlock ?_ _ _ (by first | (simp; done) | omega | (simp; omega)) | exact Chg.refl _ _)))).ob ho3 (fun h => h), nF3 nB⟩
    case rest =>
      obtain ⟨rfl, rfl, F2, hR2, m2, o2, nF2⟩ := hcut
      have H2 := Lib.hid hR2
      have M2 := Lib.hid m2
      have O2 := Lib.hid o2
      have NF2 := Lib.hid nF2
      have HF2 := Lib.hid hR2.lt
      obtain ⟨FC5, hN5, hNF5, hNL5⟩ := hR2.node
      have HN5 := Lib.hid hN5
      have HL5 := Lib.hid hNL5
      obtain ⟨c0, c1, c2, c3, c4, c5, c6, c7, c8, c9, c10, c11, c12, c13, c14, cf, cl⟩ := hN5.cells
      clear hR2 m2 o2 nF2 hNF5 hNL5 hN5 hS
      obtain ⟨d1, d2, d3⟩ := d
      cases d3
      · go_wp2_with fail
        refine bodyPost_ret (v := .tuple #[]) (results_none rfl _ _ _) rfl ?_
        rw [HS.out, if_neg (by simp [← HBZ.out]), if_pos (by first | trivial | rfl)]
        have e1 : d1 = n.cache := HDC.out (by trivial)
        subst e1
        exact ⟨rfl, F2, by simpa using H2.out, M2.out⟩
      · go_wp2_with fail
        refine (Finish_calls (HN5.out.cpu.below (Chg.below (by repeat (first | with_reducible exact Chg.refl _ _ | with_reducible exact chg0 | with_reducible refine Chg.drewN ?_ _ | with_reducible refine Chg.drew ?_ | with_reducible refine Chg.alloc ?_ _ | with_reducible refine Chg.setCell ?_ _ _ (by first | (simp; done) | omega | (simp; omega)) | with_reducible refine Chg.setBlock ?_ _ _ (by first | (simp; done) | omega | (simp; omega)) | exact Chg.refl _ _))))).mono ?_
        rintro e w5 ⟨rfl, hP5, hc5⟩
        have hfin : n.cpu.finish = ({ n.cpu with op := Op.zero, busy := false }, n.cpu.number, true) := by simp [Proc.finish, ← HBZ.out]
        simp only [hfin] at hP5 ⊢
        have hsane : Node.Sane { n with cache := d1, cpu := { n.cpu with op := Op.zero, busy := false } } := ⟨HN5.out.sane.c, HN5.out.sane.id, HN5.out.sane.wait, HN5.out.sane.tries, fun h => by cases h⟩
        obtain ⟨hN6, m6⟩ := HN5.out.cpuL hP5 hc5 hsane
        obtain ⟨F6, hR6, mm6⟩ := HL5.out _ _ _ hN6 m6
        obtain ⟨ho6, nF6⟩ := mm6.aside O2.out NF2.out
        have H6 := Lib.hid hR6
        have M6 := Lib.hid (M2.out.trans mm6)
        have HS2 := HS.out
        rw [if_neg (by simp [← HBZ.out]), if_neg (by simp)] at HS2
        simp only [hfin] at HS2
        replace HS2 := Lib.hid HS2
        obtain ⟨v1, v2, hO, hOF, hOL⟩ := hR6.out
        have HO := Lib.hid hO
        have HOL := Lib.hid hOL
        obtain ⟨A2, n2, cap2, e2⟩ := hO.done.shape
        subst e2
        have k1 : w5.cell? ⟨q, 1, none⟩ = some (.slice A2 n2 cap2) := cell_ob hO.at_ 1
        have kf : w5.frozen? ⟨q, 1, none⟩ = false := frozen_ob hO.at_ 1
        have lq := ob_lt hO.at_
        obtain ⟨hne1, hne2, hne3⟩ := hO.ne
        have hnq : ¬ (Value.slice A2 n2 cap2).ownBlock = some q := fun e => hne2 q e rfl
        have c9 : w5.cell? ⟨a.p, 9, none⟩ = some (.int .i64 n.id) := hN6.cells.2.2.2.2.2.2.2.2.2.1
        have lp := ob_lt hN6.at_
        obtain ⟨x0, x1, x2, xf⟩ := ob_cells3 ho6
        have lx := ob_lt ho6
        have HO6 := Lib.hid ho6
        have HNF6 := Lib.hid nF6
        have HQF := Lib.hid hOF
        clear hR6 hN6 m6 mm6 hO hOL hOF ho6 nF6 hne1 hne2 hne3 c0 c1 c2 c3 c4 c5 c6 c7 c8 c10 c11 c12 c13 c14 cf cl hc5 hP5 hsane hfin
        go_wp2_with fail
        go_upto_region 6 with fail
        go_cut [] (fun wx => ∃ F', Run wx a q { n with cache := d1, cpu := { n.cpu with op := Op.zero, busy := false } } L (D ++ [(⟨n.id, n.cpu.number, n.cpu.op, d2, 0⟩ : Done)]) F' ∧ Moves w wx F F' ∧ ob wx w1.heap.size = some (.cells #[Value.int IntKind.i64 n.cpu.op.block, Value.bool n.cpu.op.write, Value.int IntKind.i64 n.cpu.op.value] 25 (0, 0)) ∧ ¬ F' w1.heap.size)
        case first =>
          go_region_law (first
            | (refine step_append_sl (v := .slice A2 n2 cap2) (xs := D.map Done.cells) (ys := [Done.cells (⟨n.id, n.cpu.number, n.cpu.op, d2, 0⟩ : Done)]) rfl _ _ rfl tyDones rfl rfl (HO.out.done.chg (S := fun _ => False) (by repeat (first | with_reducible exact Chg.refl _ _ | with_reducible exact chg0 | with_reducible refine Chg.drewN ?_ _ | with_reducible refine Chg.drew ?_ | with_reducible refine Chg.alloc ?_ _ | with_reducible refine Chg.setCell ?_ _ _ (by first | (simp; done) | omega | (simp; omega)) | with_reducible refine Chg.setBlock ?_ _ _ (by first | (simp; done) | omega | (simp; omega)) | exact Chg.refl _ _)) (fun _ _ h => h)) (OwnSl.made (e := 60) (c := (Done.cells (⟨n.id, n.cpu.number, n.cpu.op, d2, 0⟩ : Done)).toArray) (b := w5.heap.size) (by first | exact ob_alloc_new _ _ _ (by simp) | (rw [ob_drew]; exact ob_alloc_new _ _ _ (by simp)) | (rw [ob_drewN]; exact ob_alloc_new _ _ _ (by simp))) (dones_ok [(⟨n.id, n.cpu.number, n.cpu.op, d2, 0⟩ : Done)]) (by simp) (by simp)).slice (dones_ok [(⟨n.id, n.cpu.number, n.cpu.op, d2, 0⟩ : Done)]) (by simp only [List.length_map, List.length_singleton]; omega) ?_; intro v7 w7 ho hc7 hloc; obtain ⟨A5, n5, cap5, hv5⟩ := ho.shape; subst hv5; have hcc : Chg (fun j => (Value.slice A2 n2 cap2).ownBlock = some j) w5 w7 := Chg.trans (S' := fun j => (Value.slice A2 n2 cap2).ownBlock = some j) (by repeat (first | with_reducible exact Chg.refl _ _ | with_reducible exact chg0 | with_reducible refine Chg.drewN ?_ _ | with_reducible refine Chg.drew ?_ | with_reducible refine Chg.alloc ?_ _ | with_reducible refine Chg.setCell ?_ _ _ (by first | (simp; done) | omega | (simp; omega)) | with_reducible refine Chg.setBlock ?_ _ _ (by first | (simp; done) | omega | (simp; omega)) | exact Chg.refl _ _)) hc7 (fun _ _ h => h); have k7 : w7.cell? ⟨q, 1, none⟩ = some (Value.slice A2 n2 cap2) := hcc.cell k1 hnq; have f7 : w7.frozen? ⟨q, 1, none⟩ = false := (by rw [hcc.frozen lq hnq]; exact kf))
            | fail)
          all_goals (go_wp2_with fail)
          all_goals go_meet
          all_goals
            have hsz := hcc.size
            have lq7 : q < w7.heap.size := by omega
            have hob7 : ob w7 q = some (.cells #[v1, Value.slice A2 n2 cap2] 35 (0, 0)) := hcc.ob HO.out.at_ hnq
            refine settlePut HO.out HOL.out M6.out HO6.out HNF6.out hcc (by rw [List.map_append]; exact ho) ?_ (by repeat (first | exact Chg.refl _ _ | refine Chg.drewN ?_ _ | refine Chg.drew ?_ | refine Chg.setCell ?_ _ _ (fun _ => rfl))) (by simp [go_sem, hob7, lq7, setAt])
            intro j hj
            rcases hloc with h | h
            · rw [h] at hj; exact .inl hj
            · rw [h] at hj; injection hj with hj; right; rw [← hj]; simp [go_sem] <;> omega
        case rest =>
          obtain ⟨F7, hR7, m7, o7, nF7⟩ := hcut
          clear HDO
          obtain ⟨y0, y1, y2, yf⟩ := ob_cells3 o7
          have ly := ob_lt o7
          clear o7
          go_wp2_with fail
          refine (end_node_calls n.cpu.op.block (hR7.below (Chg.below (by repeat (first | with_reducible exact Chg.refl _ _ | with_reducible exact chg0 | with_reducible refine Chg.drewN ?_ _ | with_reducible refine Chg.drew ?_ | with_reducible refine Chg.alloc ?_ _ | with_reducible refine Chg.setCell ?_ _ _ (by first | (simp; done) | omega | (simp; omega)) | with_reducible refine Chg.setBlock ?_ _ _ (by first | (simp; done) | omega | (simp; omega)) | exact Chg.refl _ _)))) hl).mono ?_
          rintro e w8 ⟨rfl, F8, hR8, m8⟩
          go_wp2_with fail
          go_end0
          rw [HS2.out]
          exact ⟨rfl, F8, hR8.below (Chg.below (by repeat (first | with_reducible exact Chg.refl _ _ | with_reducible exact chg0 | with_reducible refine Chg.drewN ?_ _ | with_reducible refine Chg.drew ?_ | with_reducible refine Chg.alloc ?_ _ | with_reducible refine Chg.setCell ?_ _ _ (by first | (simp; done) | omega | (simp; omega)) | with_reducible refine Chg.setBlock ?_ _ _ (by first | (simp; done) | omega | (simp; omega)) | exact Chg.refl _ _))), (m7.trans (Moves.none (by repeat (first | with_reducible exact Chg.refl _ _ | with_reducible exact chg0 | with_reducible refine Chg.drewN ?_ _ | with_reducible refine Chg.drew ?_ | with_reducible refine Chg.alloc ?_ _ | with_reducible refine Chg.setCell ?_ _ _ (by first | (simp; done) | omega | (simp; omega)) | with_reducible refine Chg.setBlock ?_ _ _ (by first | (simp; done) | omega | (simp; omega)) | exact Chg.refl _ _)))).trans (m8.trans (Moves.none (by repeat (first | with_reducible exact Chg.refl _ _ | with_reducible exact chg0 | with_reducible refine Chg.drewN ?_ _ | with_reducible refine Chg.drew ?_ | with_reducible refine Chg.alloc ?_ _ | with_reducible refine Chg.setCell ?_ _ _ (by first | (simp; done) | omega | (simp; omega)) | with_reducible refine Chg.setBlock ?_ _ _ (by first | (simp; done) | omega | (simp; omega)) | exact Chg.refl _ _))))⟩
end
end Go.Proofs.YtchlioikkhnidaaGreat

/-
  The program's node: what it asks for.
-/
namespace Go.Proofs.YtchlioikkhnidaaGreat
open Go.RowKit Go.Sort Go.ChangeShapes Go.WideShapes Go.ChangeAt
open Go.ChangeMaps (setBlock)
set_option linter.unusedVariables false
set_option linter.unusedSimpArgs false
section
variable {w w' w'' : World} {a : NAddr} {q : Nat} {n n' : Node} {L L' : List Letter} {D D' : List Done} {F F' FC : Nat → Prop} {v1 v2 : Value}
theorem targets_length (c : Config) (self : Int) (d : Draws) (h : c.nodes ≤ 64) : (targets c self d).length ≤ 65 := by
  unfold targets
  refine Nat.le_trans (List.length_filter_le _ _) ?_
  rw [List.length_map, List.length_range]
  omega

theorem keepAk {S : Nat → Prop} {p k : Nat} {u0 u1 u2 u3 u4 u5 u6 u7 u8 u9 t0 t1 t2 : Value} (hc : Chg S w w') (h1 : ¬ S p) (h2 : ¬ S k) (h : w.cell? ⟨p, 0, none⟩ = some u0 ∧ w.cell? ⟨p, 1, none⟩ = some u1 ∧ w.cell? ⟨p, 2, none⟩ = some u2 ∧ w.cell? ⟨p, 3, none⟩ = some u3 ∧ w.cell? ⟨p, 4, none⟩ = some u4 ∧ w.cell? ⟨p, 5, none⟩ = some u5 ∧ w.cell? ⟨p, 6, none⟩ = some u6 ∧ w.cell? ⟨p, 7, none⟩ = some u7 ∧ w.cell? ⟨p, 8, none⟩ = some u8 ∧ w.cell? ⟨p, 9, none⟩ = some u9 ∧ w.cell? ⟨k, 0, none⟩ = some t0 ∧ w.cell? ⟨k, 1, none⟩ = some t1 ∧ w.cell? ⟨k, 2, none⟩ = some t2) : w'.cell? ⟨p, 0, none⟩ = some u0 ∧ w'.cell? ⟨p, 1, none⟩ = some u1 ∧ w'.cell? ⟨p, 2, none⟩ = some u2 ∧ w'.cell? ⟨p, 3, none⟩ = some u3 ∧ w'.cell? ⟨p, 4, none⟩ = some u4 ∧ w'.cell? ⟨p, 5, none⟩ = some u5 ∧ w'.cell? ⟨p, 6, none⟩ = some u6 ∧ w'.cell? ⟨p, 7, none⟩ = some u7 ∧ w'.cell? ⟨p, 8, none⟩ = some u8 ∧ w'.cell? ⟨p, 9, none⟩ = some u9 ∧ w'.cell? ⟨k, 0, none⟩ = some t0 ∧ w'.cell? ⟨k, 1, none⟩ = some t1 ∧ w'.cell? ⟨k, 2, none⟩ = some t2 :=
  ⟨hc.cell h.1 h1, hc.cell h.2.1 h1, hc.cell h.2.2.1 h1, hc.cell h.2.2.2.1 h1, hc.cell h.2.2.2.2.1 h1, hc.cell h.2.2.2.2.2.1 h1, hc.cell h.2.2.2.2.2.2.1 h1, hc.cell h.2.2.2.2.2.2.2.1 h1, hc.cell h.2.2.2.2.2.2.2.2.1 h1, hc.cell h.2.2.2.2.2.2.2.2.2.1 h1, hc.cell h.2.2.2.2.2.2.2.2.2.2.1 h2, hc.cell h.2.2.2.2.2.2.2.2.2.2.2.1 h2, hc.cell h.2.2.2.2.2.2.2.2.2.2.2.2 h2⟩

set_option maxHeartbeats 8000000 in
set_option maxRecDepth 20000 in
theorem ask_calls (op : Op) (d : Draws) (h : Run w a q n L D F) (hl : L.length ≤ 900000) :
    Calls Tryz.prog 35 #[.pointer (some ⟨a.p, 0, none⟩), op.val, d.val, .pointer (some ⟨q, 0, none⟩)] w fun e w' => e = .returned (.tuple #[]) ∧ ∃ F', Run w' a q n (L ++ n.ask op d) D F' ∧ Moves w w' F F' := by
  have H := Lib.hid h
  obtain ⟨FC, hN, hNF, hNL⟩ := h.node
  have HN := Lib.hid hN
  have HF := Lib.hid h.lt
  obtain ⟨c0, c1, c2, c3, c4, c5, c6, c7, c8, c9, c10, c11, c12, c13, c14, cf, cl⟩ := hN.cells
  have hset : n.ask op d = (targets n.c n.id d).map fun dst => ⟨2, n.id, dst, op.block, 0, 0, op.write, Bundle.none⟩ := rfl
  have HS := Lib.hid hset
  obtain ⟨oB, oW, oV⟩ := op
  obtain ⟨d0, d1, d2⟩ := d
  clear h hset hNF hNL hN
  simp only [Op.val, Op.cells, Draws.val, Draws.cells]
  go_enter Tryz.func35, Tryz.ntmps35
  go_wp2_with fail
  obtain ⟨W, hW⟩ : ∃ W, W = ((w.alloc (Obj.cells #[Value.int IntKind.i64 oB, Value.bool oW, Value.int IntKind.i64 oV] 25)).alloc (Obj.cells #[Value.int IntKind.i64 d0, Value.int IntKind.i64 d1, Value.int IntKind.i64 d2] 39)) := ⟨_, rfl⟩
  rw [← hW]
  have bW : Below w.heap.size w W := by rw [hW]; exact Chg.below (by repeat (first | with_reducible exact Chg.refl _ _ | with_reducible exact chg0 | with_reducible refine Chg.drewN ?_ _ | with_reducible refine Chg.drew ?_ | with_reducible refine Chg.alloc ?_ _ | with_reducible refine Chg.setCell ?_ _ _ (by first | (simp; done) | omega | (simp; omega)) | with_reducible refine Chg.setBlock ?_ _ _ (by first | (simp; done) | omega | (simp; omega)) | exact Chg.refl _ _))
  have oW1 : ob W w.heap.size = some (.cells #[Value.int IntKind.i64 oB, Value.bool oW, Value.int IntKind.i64 oV] 25 (0, 0)) := by rw [hW]; simp [go_sem]
  have oW2 : ob W (w.heap.size + 1) = some (.cells #[Value.int IntKind.i64 d0, Value.int IntKind.i64 d1, Value.int IntKind.i64 d2] 39 (0, 0)) := by rw [hW]; simp [go_sem]
  have BW := Lib.hid bW
  have O1 := Lib.hid oW1
  have HR := Lib.hid (H.out.below bW)
  have hNW := HN.out.below bW
  have HT := Lib.hid (fun V => Targets_calls n.c n.id ⟨d0, d1, d2⟩ V (by have := HN.out.sane.c.nodes; omega) HN.out.sane.c.nodes.2)
  simp only [Config.val, Config.cells, Draws.val, Draws.cells] at HT
  have HL := Lib.hid (targets_length n.c n.id ⟨d0, d1, d2⟩ HN.out.sane.c.nodes.2)
  obtain ⟨T, hT⟩ : ∃ T, T = targets n.c n.id ⟨d0, d1, d2⟩ := ⟨_, rfl⟩
  rw [← hT] at HT HL HS
  have lkW := ob_lt oW2
  clear hW c0 c1 c2 c3 c4 c5 c6 c7 c8 c9 c10 c11 c12 c13 c14 cf cl hT
  have hS : W.cell? ⟨a.p, 0, none⟩ = some (.int .i64 n.c.nodes) ∧ W.cell? ⟨a.p, 1, none⟩ = some (.int .i64 n.c.blocks) ∧ W.cell? ⟨a.p, 2, none⟩ = some (.int .i64 n.c.tokens) ∧ W.cell? ⟨a.p, 3, none⟩ = some (.int .i64 n.c.sets) ∧ W.cell? ⟨a.p, 4, none⟩ = some (.int .i64 n.c.ways) ∧ W.cell? ⟨a.p, 5, none⟩ = some (.int .i64 n.c.cap) ∧ W.cell? ⟨a.p, 6, none⟩ = some (.int .i64 n.c.wait) ∧ W.cell? ⟨a.p, 7, none⟩ = some (.int .i64 n.c.tries) ∧ W.cell? ⟨a.p, 8, none⟩ = some (.int .i64 n.c.policy) ∧ W.cell? ⟨a.p, 9, none⟩ = some (.int .i64 n.id) ∧ W.cell? ⟨w.heap.size + 1, 0, none⟩ = some (.int .i64 d0) ∧ W.cell? ⟨w.heap.size + 1, 1, none⟩ = some (.int .i64 d1) ∧ W.cell? ⟨w.heap.size + 1, 2, none⟩ = some (.int .i64 d2) := ⟨hNW.cells.1, hNW.cells.2.1, hNW.cells.2.2.1, hNW.cells.2.2.2.1, hNW.cells.2.2.2.2.1, hNW.cells.2.2.2.2.2.1, hNW.cells.2.2.2.2.2.2.1, hNW.cells.2.2.2.2.2.2.2.1, hNW.cells.2.2.2.2.2.2.2.2.1, hNW.cells.2.2.2.2.2.2.2.2.2.1, cell_ob oW2 0, cell_ob oW2 1, cell_ob oW2 2⟩
  have lpW := ob_lt hNW.at_
  clear hNW oW1 oW2 bW
  go_upto_region 2 with fail
  go_cut [19, 20, 21] (fun s19 s20 s21 wx => s20 = .int .i64 T.length ∧ s21 = .int .i64 0 ∧ OwnSl wx 3 1 s19 (ints T) ∧ (∀ j, s19.ownBlock = some j → W.heap.size ≤ j) ∧ Below W.heap.size W wx)
  case first =>
    go_region_held3 (fun V => V.cell? ⟨a.p, 0, none⟩ = some (.int .i64 n.c.nodes) ∧ V.cell? ⟨a.p, 1, none⟩ = some (.int .i64 n.c.blocks) ∧ V.cell? ⟨a.p, 2, none⟩ = some (.int .i64 n.c.tokens) ∧ V.cell? ⟨a.p, 3, none⟩ = some (.int .i64 n.c.sets) ∧ V.cell? ⟨a.p, 4, none⟩ = some (.int .i64 n.c.ways) ∧ V.cell? ⟨a.p, 5, none⟩ = some (.int .i64 n.c.cap) ∧ V.cell? ⟨a.p, 6, none⟩ = some (.int .i64 n.c.wait) ∧ V.cell? ⟨a.p, 7, none⟩ = some (.int .i64 n.c.tries) ∧ V.cell? ⟨a.p, 8, none⟩ = some (.int .i64 n.c.policy) ∧ V.cell? ⟨a.p, 9, none⟩ = some (.int .i64 n.id) ∧ V.cell? ⟨w.heap.size + 1, 0, none⟩ = some (.int .i64 d0) ∧ V.cell? ⟨w.heap.size + 1, 1, none⟩ = some (.int .i64 d1) ∧ V.cell? ⟨w.heap.size + 1, 2, none⟩ = some (.int .i64 d2)) (first | assumption | (refine keepAk (S := fun _ => False) ?_ (fun h => h) (fun h => h) hS; (repeat (first | with_reducible exact Chg.refl _ _ | with_reducible exact chg0 | with_reducible refine Chg.drewN ?_ _ | with_reducible refine Chg.drew ?_ | with_reducible refine Chg.alloc ?_ _ | with_reducible refine Chg.setCell ?_ _ _ (by first | (simp; done) | omega | (simp; omega)) | with_reducible refine Chg.setBlock ?_ _ _ (by first | (simp; done) | omega | (simp; omega)) | exact Chg.refl _ _)); done) | fail) (first
      | (go_at_call 81; refine (HT.out _).mono ?_; rintro e w3 ⟨v, rfl, ho3, hfr3, hb3⟩; have hS := keepAk (S := fun _ => False) (Chg.of_below hb3) (fun h => h) (fun h => h) (by first | assumption | (refine keepAk (S := fun _ => False) ?_ (fun h => h) (fun h => h) hS; (repeat (first | with_reducible exact Chg.refl _ _ | with_reducible exact chg0 | with_reducible refine Chg.drewN ?_ _ | with_reducible refine Chg.drew ?_ | with_reducible refine Chg.alloc ?_ _ | with_reducible refine Chg.setCell ?_ _ _ (by first | (simp; done) | omega | (simp; omega)) | with_reducible refine Chg.setBlock ?_ _ _ (by first | (simp; done) | omega | (simp; omega)) | exact Chg.refl _ _)); done) | fail); obtain ⟨A3, cap3, e3, _⟩ := ho3.slice; rw [ints_length] at e3; subst e3)
      | fail)
    all_goals (go_wp2_with fail)
    all_goals go_meet
    all_goals refine ⟨rfl, rfl, ho3.chg (S := fun _ => False) (by repeat (first | with_reducible exact Chg.refl _ _ | with_reducible exact chg0 | with_reducible refine Chg.drewN ?_ _ | with_reducible refine Chg.drew ?_ | with_reducible refine Chg.alloc ?_ _ | with_reducible refine Chg.setCell ?_ _ _ (by first | (simp; done) | omega | (simp; omega)) | with_reducible refine Chg.setBlock ?_ _ _ (by first | (simp; done) | omega | (simp; omega)) | exact Chg.refl _ _)) (fun _ _ h => h), fun j hj => by have := hfr3 j hj; simpa [go_sem] using this, ?_⟩
    all_goals (refine below_trans (below_trans ?_ hb3) ?_ <;> exact Chg.below (by repeat (first | with_reducible exact Chg.refl _ _ | with_reducible exact chg0 | with_reducible refine Chg.drewN ?_ _ | with_reducible refine Chg.drew ?_ | with_reducible refine Chg.alloc ?_ _ | with_reducible refine Chg.setCell ?_ _ _ (by first | (simp; done) | omega | (simp; omega)) | with_reducible refine Chg.setBlock ?_ _ _ (by first | (simp; done) | omega | (simp; omega)) | exact Chg.refl _ _)))
  case rest =>
    obtain ⟨rfl, rfl, hO, hOfr, hOb⟩ := hcut
    obtain ⟨A3, cap3, e3, _⟩ := hO.slice
    rw [ints_length] at e3
    subst e3
    have HU := Lib.hid hO
    have hTl := HL.out
    have hnU : ∀ j, F j → ¬ (Value.slice A3 T.length cap3).ownBlock = some j := fun j hj e => by
      have h1 := HF.out j hj
      have h2 := hOfr j e
      have := BW.out.size
      omega
    have NU := Lib.hid hnU
    have HB := Lib.hid hOb
    have nB : ¬ F w.heap.size := fun hf => by have := HF.out _ hf; omega
    have HRc := Lib.hid (HR.out.below hOb)
    have hoc : ob wc w.heap.size = some (.cells #[Value.int IntKind.i64 oB, Value.bool oW, Value.int IntKind.i64 oV] 25 (0, 0)) := (Chg.of_below (S := fun _ => False) hOb).ob O1.out (fun h => h)
    have OC := Lib.hid hoc
    have HM0 := Lib.hid (Moves.none (F := F) ((Chg.of_below (below_trans BW.out hOb)).trans (S' := fun _ => False) (Chg.refl _ _) (fun _ _ h => h)))
    clear hO hOfr hOb hnU hoc hS HT
    go_wp2_with fail
    go_loopg [21] T.length (fun g i wx => ∃ (wr : World) (k : Nat) (F' : Nat → Prop), wx = wr ∧ k ≤ T.length ∧ g = T.length - k ∧ i = .int .i64 k ∧ Run wr a q n (L ++ (T.take k).map fun dst => ⟨2, n.id, dst, oB, 0, 0, oW, Bundle.none⟩) D F' ∧ Moves wc wr F F')
    case atStart => exact ⟨_, 0, F, rfl, Nat.zero_le _, rfl, rfl, by simpa using HRc.out.below (Chg.below (by repeat (first | with_reducible exact Chg.refl _ _ | with_reducible exact chg0 | with_reducible refine Chg.drewN ?_ _ | with_reducible refine Chg.drew ?_ | with_reducible refine Chg.alloc ?_ _ | with_reducible refine Chg.setCell ?_ _ _ (by first | (simp; done) | omega | (simp; omega)) | with_reducible refine Chg.setBlock ?_ _ _ (by first | (simp; done) | omega | (simp; omega)) | exact Chg.refl _ _))), Moves.none (by repeat (first | with_reducible exact Chg.refl _ _ | with_reducible exact chg0 | with_reducible refine Chg.drewN ?_ _ | with_reducible refine Chg.drew ?_ | with_reducible refine Chg.alloc ?_ _ | with_reducible refine Chg.setCell ?_ _ _ (by first | (simp; done) | omega | (simp; omega)) | with_reducible refine Chg.setBlock ?_ _ _ (by first | (simp; done) | omega | (simp; omega)) | exact Chg.refl _ _))⟩
    case round =>
      obtain ⟨wr, k, F', rfl, hk, rfl, rfl, hR', hmv⟩ := hrel
      have HR' := Lib.hid hR'
      have HM := Lib.hid hmv
      obtain ⟨FC2, hN2, _, _⟩ := hR'.node
      have c9 : wr.cell? ⟨a.p, 9, none⟩ = some (.int .i64 n.id) := hN2.cells.2.2.2.2.2.2.2.2.2.1
      have lp := ob_lt hN2.at_
      obtain ⟨ho1, nF1⟩ := hmv.aside OC.out nB
      obtain ⟨x0, x1, x2, xf⟩ := ob_cells3 ho1
      have lx := ob_lt ho1
      clear hR' hmv hN2 ho1
      by_cases hlt : k < T.length
      · obtain ⟨A', cap', e', t1, t2, t3⟩ := (HU.out.chg HM.out.chg (fun j hj hf => NU.out j hf hj)).slice
        rw [ints_length] at e' t1 t2 t3
        cases e'
        obtain ⟨bb, off, rfl, hc⟩ := t3 (by omega)
        have hx0 := ints_cells hc k hlt
        obtain ⟨x, hx⟩ : ∃ x, x = T.getD k 0 := ⟨_, rfl⟩
        rw [← hx] at hx0
        have ht : T.take (k + 1) = T.take k ++ [x] := by rw [hx, List.take_succ_eq_append_getElem hlt]; simp [List.getD, hlt]
        have HTK := Lib.hid ht
        have lb := World.block_lt_of_cell? wr _ hx0
        simp only at lb
        clear ht hx hc t1 t2 t3
        go_wp2_with fail
        go_still_tail 11, (by kernel_rfl)
        go_wp2_with fail
        refine (Run.send ⟨2, n.id, x, oB, 0, 0, oW, Bundle.none⟩ (HR'.out.below (Chg.below (by repeat (first | with_reducible exact Chg.refl _ _ | with_reducible exact chg0 | with_reducible refine Chg.drewN ?_ _ | with_reducible refine Chg.drew ?_ | with_reducible refine Chg.alloc ?_ _ | with_reducible refine Chg.setCell ?_ _ _ (by first | (simp; done) | omega | (simp; omega)) | with_reducible refine Chg.setBlock ?_ _ _ (by first | (simp; done) | omega | (simp; omega)) | exact Chg.refl _ _)))) (by simp only [List.length_append, List.length_map, List.length_take]; omega)).mono ?_
        rintro e w8 ⟨rfl, F8, hR8, m8⟩
        have HR8 := Lib.hid hR8
        have HM8 := Lib.hid (HM.out.trans (Moves.trans (F1 := F') (Moves.none (by repeat (first | with_reducible exact Chg.refl _ _ | with_reducible exact chg0 | with_reducible refine Chg.drewN ?_ _ | with_reducible refine Chg.drew ?_ | with_reducible refine Chg.alloc ?_ _ | with_reducible refine Chg.setCell ?_ _ _ (by first | (simp; done) | omega | (simp; omega)) | with_reducible refine Chg.setBlock ?_ _ _ (by first | (simp; done) | omega | (simp; omega)) | exact Chg.refl _ _))) m8))
        clear hR8 m8 hx0
        go_wp2_with fail
        go_roundg (T.length - (k + 1))
        case rel =>
          refine ⟨_, k + 1, F8, rfl, by omega, rfl, by go_num, ?_, HM8.out⟩
          rw [HTK.out, List.map_append, ← List.append_assoc]
          exact HR8.out
        case measure => omega
      · have hfin : T.take k = T := List.take_of_length_le (by omega)
        go_wp2_with fail
        go_end0
        rw [HS.out]
        rw [hfin] at HR'
        exact ⟨rfl, F', HR'.out.below (Chg.below (by repeat (first | with_reducible exact Chg.refl _ _ | with_reducible exact chg0 | with_reducible refine Chg.drewN ?_ _ | with_reducible refine Chg.drew ?_ | with_reducible refine Chg.alloc ?_ _ | with_reducible refine Chg.setCell ?_ _ _ (by first | (simp; done) | omega | (simp; omega)) | with_reducible refine Chg.setBlock ?_ _ _ (by first | (simp; done) | omega | (simp; omega)) | exact Chg.refl _ _))), (HM0.out.trans HM.out).trans (Moves.none (by repeat (first | with_reducible exact Chg.refl _ _ | with_reducible exact chg0 | with_reducible refine Chg.drewN ?_ _ | with_reducible refine Chg.drew ?_ | with_reducible refine Chg.alloc ?_ _ | with_reducible refine Chg.setCell ?_ _ _ (by first | (simp; done) | omega | (simp; omega)) | with_reducible refine Chg.setBlock ?_ _ _ (by first | (simp; done) | omega | (simp; omega)) | exact Chg.refl _ _)))⟩
end
end Go.Proofs.YtchlioikkhnidaaGreat

/-
  The program's node: a request of the processor's own.
-/
namespace Go.Proofs.YtchlioikkhnidaaGreat
open Go.RowKit Go.Sort Go.ChangeShapes Go.WideShapes Go.ChangeAt
open Go.ChangeMaps (setBlock)
set_option linter.unusedVariables false
set_option linter.unusedSimpArgs false
section
variable {w w' w'' : World} {a : NAddr} {q : Nat} {n n' : Node} {L L' : List Letter} {D D' : List Done} {F F' FC : Nat → Prop} {v1 v2 : Value}
/-- What a call sends, begun. -/
theorem NodeIn.start (h : NodeIn w a n FC) (hq : ob w q = some (.cells #[.slice none 0 0, .slice none 0 0] 35 (0, 0))) (hn : ¬ nFp a FC q) :
    ∃ F, Run w a q n [] [] F ∧ ∀ j, F j → nFp a FC j ∨ j = q :=
  ⟨_, ⟨FC, _, _, ⟨h, ⟨hq, OwnSl.nil, OwnSl.nil⟩, by
    rintro j (rfl | hj | hj)
    · exact hn
    · cases hj
    · cases hj⟩, rfl⟩, by
    rintro j (hj | rfl | hj | hj)
    · exact .inl hj
    · exact .inr rfl
    · cases hj
    · cases hj⟩
/-- What a call sends, over: the node, and two slices of one's own beside it. -/
structure Sent (w0 w : World) (a : NAddr) (n : Node) (FC0 FC : Nat → Prop) (v1 v2 : Value) (L : List Letter) (D : List Done) : Prop where
  node : NodeIn w a n FC
  letters : OwnSl w 44 11 v1 (L.map Letter.cells)
  done : OwnSl w 60 7 v2 (D.map Done.cells)
  moves : Moves w0 w (nFp a FC0) (nFp a FC)
  apart1 : ∀ j, v1.ownBlock = some j → ¬ nFp a FC j ∧ (nFp a FC0 j ∨ w0.heap.size ≤ j)
  apart2 : ∀ j, v2.ownBlock = some j → ¬ nFp a FC j ∧ (nFp a FC0 j ∨ w0.heap.size ≤ j)
  apart : ∀ j, v1.ownBlock = some j → v2.ownBlock = some j → False
theorem Run.over {w0 : World} {FC0 : Nat → Prop} (h0 : NodeIn w0 a n FC0) (h : Run w a q n' L D F) (hm : Chg (nFp a FC0) w0 w) (hq : w0.heap.size ≤ q) (hf : ∀ j, F j → nFp a FC0 j ∨ w0.heap.size ≤ j) :
    ∃ FC v1 v2, Sent w0 w a n' FC0 FC v1 v2 L D ∧ ob w q = some (.cells #[v1, v2] 35 (0, 0)) := by
  obtain ⟨FC, v1, v2, ⟨h1, h2, h3⟩, rfl⟩ := h
  refine ⟨FC, v1, v2, ⟨h1, h2.letters, h2.done, ⟨hm, fun j hj => hf j (.inl hj)⟩, fun j hj => ⟨h3 j (.inr (.inl hj)), hf j (.inr (.inr (.inl hj)))⟩, fun j hj => ⟨h3 j (.inr (.inr hj)), hf j (.inr (.inr (.inr hj)))⟩, h2.ne.2.2⟩, h2.at_⟩

theorem Sent.chg {w0 : World} {FC0 : Nat → Prop} (h : Sent w0 w a n FC0 FC v1 v2 L D) (hc : Chg (fun _ => False) w w') : Sent w0 w' a n FC0 FC v1 v2 L D :=
  ⟨h.node.chg hc fun _ _ h => h, h.letters.chg hc fun _ _ h => h, h.done.chg hc fun _ _ h => h, h.moves.trans (Moves.none hc), h.apart1, h.apart2, h.apart⟩

theorem Run.ended {w0 : World} {FC0 : Nat → Prop} (h : Run w a q n' L D F) (h0 : NodeIn w0 a n FC0) (m : Moves w0 w (nFp a FC0) F) (hq : w0.heap.size ≤ q) :
    ∃ FC A1 n1 c1 A2 n2 c2, Sent w0 w a n' FC0 FC (.slice A1 n1 c1) (.slice A2 n2 c2) L D ∧ ob w q = some (.cells #[.slice A1 n1 c1, .slice A2 n2 c2] 35 (0, 0)) ∧
      ∀ j, (nFp a FC j ∨ (Value.slice A1 n1 c1).ownBlock = some j ∨ (Value.slice A2 n2 c2).ownBlock = some j) → F j := by
  obtain ⟨FC, v1, v2, ⟨h1, h2, h3⟩, rfl⟩ := h
  obtain ⟨A1, n1, c1, rfl⟩ := h2.letters.shape
  obtain ⟨A2, n2, c2, rfl⟩ := h2.done.shape
  exact ⟨FC, A1, n1, c1, A2, n2, c2, ⟨h1, h2.letters, h2.done, ⟨m.chg, fun j hj => m.fresh j (.inl hj)⟩, fun j hj => ⟨h3 j (.inr (.inl hj)), m.fresh j (.inr (.inr (.inl hj)))⟩, fun j hj => ⟨h3 j (.inr (.inr hj)), m.fresh j (.inr (.inr (.inr hj)))⟩, h2.ne.2.2⟩, h2.at_,
    fun j hj => hj.elim .inl fun h => .inr (.inr h)⟩
theorem Sent.put {w0 : World} {FC0 S : Nat → Prop} (h : Sent w0 w a n FC0 FC v1 v2 L D) (hc : Chg S w w') (hS : ∀ j, S j → w0.heap.size ≤ j ∧ ¬ (nFp a FC j ∨ v1.ownBlock = some j ∨ v2.ownBlock = some j)) : Sent w0 w' a n FC0 FC v1 v2 L D :=
  ⟨h.node.chg hc fun j hj hs => (hS j hs).2 (.inl hj), h.letters.chg hc fun j hj hs => (hS j hs).2 (.inr (.inl hj)), h.done.chg hc fun j hj hs => (hS j hs).2 (.inr (.inr hj)),
    ⟨h.moves.chg.trans hc fun j hj hs => absurd (hS j hs).1 (Nat.not_le_of_lt hj), h.moves.fresh⟩, h.apart1, h.apart2, h.apart⟩
theorem Sent.nil {w0 : World} {FC0 : Nat → Prop} (h : NodeIn w a n FC) (hm : Moves w0 w (nFp a FC0) (nFp a FC)) : Sent w0 w a n FC0 FC (.slice none 0 0) (.slice none 0 0) [] [] :=
  ⟨h, OwnSl.nil, OwnSl.nil, hm, fun j hj => (by cases hj), fun j hj => (by cases hj), fun j hj => (by cases hj)⟩
theorem Sent.none (h : NodeIn w a n FC) (hc : Chg (fun _ => False) w w') : Sent w w' a n FC FC (.slice none 0 0) (.slice none 0 0) [] [] :=
  ⟨h.chg hc fun _ _ h => h, OwnSl.nil, OwnSl.nil, Moves.none hc, fun j hj => (by cases hj), fun j hj => (by cases hj), fun j hj => (by cases hj)⟩

theorem Node.endL_len (n : Node) (b : Int) : (n.endL b).2.length ≤ 1 := by
  unfold Node.endL
  split <;> simp
theorem Node.settle_len (n : Node) : n.settle.2.1.length ≤ 1 ∧ n.settle.2.2.length ≤ 1 := by
  unfold Node.settle
  split
  · simp
  split
  · simp
  · exact ⟨Node.endL_len _ _, by simp⟩

theorem keepIs {S : Nat → Prop} {p k : Nat} {v1 v2 v3 v4 v5 : Value} (hc : Chg S w w') (h1 : ¬ S p) (h2 : ¬ S k)
    (h : w.cell? ⟨p, 1, none⟩ = some v1 ∧ w.cell? ⟨p, 12, none⟩ = some v2 ∧ w.cell? ⟨k, 0, none⟩ = some v3 ∧ w.cell? ⟨k, 1, none⟩ = some v4 ∧ w.cell? ⟨k, 2, none⟩ = some v5) :
    w'.cell? ⟨p, 1, none⟩ = some v1 ∧ w'.cell? ⟨p, 12, none⟩ = some v2 ∧ w'.cell? ⟨k, 0, none⟩ = some v3 ∧ w'.cell? ⟨k, 1, none⟩ = some v4 ∧ w'.cell? ⟨k, 2, none⟩ = some v5 :=
  ⟨hc.cell h.1 h1, hc.cell h.2.1 h1, hc.cell h.2.2.1 h2, hc.cell h.2.2.2.1 h2, hc.cell h.2.2.2.2 h2⟩

set_option maxHeartbeats 8000000 in
set_option maxRecDepth 20000 in
theorem NodeIssue_calls (op : Op) (d : Draws) (h : NodeIn w a n FC) (hn : n.cpu.number < 1000000000) :
    Calls Tryz.prog 13 #[.pointer (some ⟨a.p, 0, none⟩), op.val, d.val] w fun e w' =>
      ∃ FC' v1 v2, e = .returned (.tuple #[.agg #[v1, v2], .bool (n.issue op d).2.2.2]) ∧ Sent w w' a (n.issue op d).1 FC FC' v1 v2 (n.issue op d).2.1 (n.issue op d).2.2.1 := by
  have H := Lib.hid h
  have hset : n.issue op d = if op.block < 0 ∨ n.c.blocks ≤ op.block ∨ n.cpu.busy = true then (n, [], [], false) else
      ((Node.settle { n with cpu := (n.cpu.issue op).1 }).1, if (Node.settle { n with cpu := (n.cpu.issue op).1 }).1.cpu.busy = true then (Node.settle { n with cpu := (n.cpu.issue op).1 }).2.1 ++ (Node.settle { n with cpu := (n.cpu.issue op).1 }).1.ask op d else (Node.settle { n with cpu := (n.cpu.issue op).1 }).2.1, (Node.settle { n with cpu := (n.cpu.issue op).1 }).2.2, true) := rfl
  have HS := Lib.hid hset
  obtain ⟨c0, c1, c2, c3, c4, c5, c6, c7, c8, c9, c10, c11, c12, c13, c14, cf, cl⟩ := h.cells
  clear hset h
  go_enter Tryz.func13, Tryz.ntmps13
  simp only [Op.val, Op.cells, Draws.val, Draws.cells]
  go_wp2_with fail
  obtain ⟨W, hW⟩ : ∃ W, W = ((((w.alloc (Obj.cells #[Value.int IntKind.i64 op.block, Value.bool op.write, Value.int IntKind.i64 op.value] 25)).alloc (Obj.cells #[Value.int IntKind.i64 d.d0, Value.int IntKind.i64 d.d1, Value.int IntKind.i64 d.d2] 39)).alloc (Obj.cells #[Value.slice none 0 0, Value.slice none 0 0] 35)).alloc (Obj.cells #[Value.slice none 0 0, Value.slice none 0 0] 35)) := ⟨_, rfl⟩
  rw [← hW]
  have bW : Below w.heap.size w W := by rw [hW]; exact Chg.below (by repeat (first | with_reducible exact Chg.refl _ _ | with_reducible exact chg0 | with_reducible refine Chg.drewN ?_ _ | with_reducible refine Chg.drew ?_ | with_reducible refine Chg.alloc ?_ _ | with_reducible refine Chg.setCell ?_ _ _ (by first | (simp; done) | omega | (simp; omega)) | with_reducible refine Chg.setBlock ?_ _ _ (by first | (simp; done) | omega | (simp; omega)) | exact Chg.refl _ _))
  have o1 : ob W w.heap.size = some (.cells #[Value.int IntKind.i64 op.block, Value.bool op.write, Value.int IntKind.i64 op.value] 25 (0, 0)) := by rw [hW]; simp [go_sem]
  have o2 : ob W (w.heap.size + 1) = some (.cells #[Value.int IntKind.i64 d.d0, Value.int IntKind.i64 d.d1, Value.int IntKind.i64 d.d2] 39 (0, 0)) := by rw [hW]; simp [go_sem]
  have o3 : ob W (w.heap.size + 1 + 1) = some (.cells #[Value.slice none 0 0, Value.slice none 0 0] 35 (0, 0)) := by rw [hW]; simp [go_sem]
  have o4 : ob W (w.heap.size + 1 + 1 + 1) = some (.cells #[Value.slice none 0 0, Value.slice none 0 0] 35 (0, 0)) := by rw [hW]; simp [go_sem]
  have BW := Lib.hid bW
  clear hW c0 c1 c2 c3 c4 c5 c6 c7 c8 c9 c10 c11 c12 c13 c14 cf cl
  have hNW := H.out.below bW
  have HNW := Lib.hid hNW
  obtain ⟨c0, c1, c2, c3, c4, c5, c6, c7, c8, c9, c10, c11, c12, c13, c14, cf, cl⟩ := hNW.cells
  obtain ⟨x0, x1, x2, xf⟩ := ob_cells3 o1
  obtain ⟨y0, y1, y2, yf⟩ := ob_cells3 o2
  have k30 : W.cell? ⟨w.heap.size + 1 + 1, 0, none⟩ = some (.slice none 0 0) := cell_ob o3 0
  have k31 : W.cell? ⟨w.heap.size + 1 + 1, 1, none⟩ = some (.slice none 0 0) := cell_ob o3 1
  have k3f : W.frozen? ⟨w.heap.size + 1 + 1, 0, none⟩ = false := frozen_ob o3 0
  have k3g : W.frozen? ⟨w.heap.size + 1 + 1, 1, none⟩ = false := frozen_ob o3 1
  have k40 : W.cell? ⟨w.heap.size + 1 + 1 + 1, 0, none⟩ = some (.slice none 0 0) := cell_ob o4 0
  have k41 : W.cell? ⟨w.heap.size + 1 + 1 + 1, 1, none⟩ = some (.slice none 0 0) := cell_ob o4 1
  have l4 := ob_lt o4
  have l3 := ob_lt o3
  clear hNW bW
  by_cases q1 : op.block < 0
  · have q1' : decide (op.block < 0) = true := by simpa using q1
    have QQ := Lib.hid q1
    clear q1
    go_wp2_with fail
    go_quiet (fail)
    go_wp2_with fail
    (try simp only [Exit.inBlock, Exit.then])
    refine bodyRet2 _ _ rfl rfl (ResIs.row Tryz.underlying35 rfl (by kernel_rfl) rfl (by first | (simp [go_sem, o3, o4, l3, l4, setAt]; done) | (simp [go_sem, o3, o4, l3, l4, setAt]; exact ⟨rfl, rfl, rfl⟩))) ResIs.tmp ?_
    rw [HS.out, if_pos (by first | exact .inl QQ.out | exact .inr (.inl QQ.out) | exact .inr (.inr QQ.out))]
    exact ⟨FC, _, _, rfl, Sent.none H.out ((Chg.of_below (S := fun _ => False) BW.out).trans (S' := fun j => w.heap.size ≤ j) (by repeat (first | with_reducible exact Chg.refl _ _ | with_reducible exact chg0 | with_reducible refine Chg.drewN ?_ _ | with_reducible refine Chg.drew ?_ | with_reducible refine Chg.alloc ?_ _ | with_reducible refine Chg.setCell ?_ _ _ (by first | (simp; done) | omega | (simp; omega)) | with_reducible refine Chg.setBlock ?_ _ _ (by first | (simp; done) | omega | (simp; omega)) | exact Chg.refl _ _)) (fun j hj h => Nat.not_le_of_lt hj h))⟩
  · have q1' : decide (op.block < 0) = false := by simpa using q1
    by_cases q2 : n.c.blocks ≤ op.block
    · have q2' : decide (n.c.blocks ≤ op.block) = true := by simpa using q2
      have QQ := Lib.hid q2
      clear q1 q2
      go_wp2_with fail
      go_quiet (fail)
      go_wp2_with fail
      (try simp only [Exit.inBlock, Exit.then])
      refine bodyRet2 _ _ rfl rfl (ResIs.row Tryz.underlying35 rfl (by kernel_rfl) rfl (by first | (simp [go_sem, o3, o4, l3, l4, setAt]; done) | (simp [go_sem, o3, o4, l3, l4, setAt]; exact ⟨rfl, rfl, rfl⟩))) ResIs.tmp ?_
      rw [HS.out, if_pos (by first | exact .inl QQ.out | exact .inr (.inl QQ.out) | exact .inr (.inr QQ.out))]
      exact ⟨FC, _, _, rfl, Sent.none H.out ((Chg.of_below (S := fun _ => False) BW.out).trans (S' := fun j => w.heap.size ≤ j) (by repeat (first | with_reducible exact Chg.refl _ _ | with_reducible exact chg0 | with_reducible refine Chg.drewN ?_ _ | with_reducible refine Chg.drew ?_ | with_reducible refine Chg.alloc ?_ _ | with_reducible refine Chg.setCell ?_ _ _ (by first | (simp; done) | omega | (simp; omega)) | with_reducible refine Chg.setBlock ?_ _ _ (by first | (simp; done) | omega | (simp; omega)) | exact Chg.refl _ _)) (fun j hj h => Nat.not_le_of_lt hj h))⟩
    · have q2' : decide (n.c.blocks ≤ op.block) = false := by simpa using q2
      have Q1 := Lib.hid q1
      have Q2 := Lib.hid q2
      clear q1 q2
      have HI := Lib.hid (fun V (hV : ProcAt V a.cp n.cpu) => Issue_calls op hV hn)
      obtain ⟨r, hr⟩ : ∃ r, r = n.cpu.issue op := ⟨_, rfl⟩
      simp only [Op.val, Op.cells, ← hr] at HI
      have HRr := Lib.hid hr
      clear hr
      go_upto_region 3 with fail
      go_cut [32] (fun s32 wx => s32 = .bool (!r.2) ∧ ProcAt wx a.cp r.1 ∧ Chg (fun j => j = a.cp) W wx)
      case first =>
        have hS : W.cell? ⟨a.p, 1, none⟩ = some (.int .i64 n.c.blocks) ∧ W.cell? ⟨a.p, 12, none⟩ = some (.pointer (some ⟨a.cp, 0, none⟩)) ∧ W.cell? ⟨w.heap.size, 0, none⟩ = some (.int .i64 op.block) ∧ W.cell? ⟨w.heap.size, 1, none⟩ = some (.bool op.write) ∧ W.cell? ⟨w.heap.size, 2, none⟩ = some (.int .i64 op.value) := ⟨c1, c12, x0, x1, x2⟩
        have nPC : ¬ a.p = a.cp := by
          have hnd := HNW.out.nodup
          simp only [NAddr.list, List.nodup_cons, List.mem_cons, List.not_mem_nil, or_false, not_or] at hnd
          exact hnd.1.2.2.2.1
        have nKC : ¬ w.heap.size = a.cp := fun e => by
          have h1 := H.out.lt a.cp (.inl (by simp [NAddr.list]))
          omega
        go_region_held3 (fun V => V.cell? ⟨a.p, 1, none⟩ = some (.int .i64 n.c.blocks) ∧ V.cell? ⟨a.p, 12, none⟩ = some (.pointer (some ⟨a.cp, 0, none⟩)) ∧ V.cell? ⟨w.heap.size, 0, none⟩ = some (.int .i64 op.block) ∧ V.cell? ⟨w.heap.size, 1, none⟩ = some (.bool op.write) ∧ V.cell? ⟨w.heap.size, 2, none⟩ = some (.int .i64 op.value)) (first | assumption | (refine keepIs (S := fun _ => False) ?_ (fun h => h) (fun h => h) hS; (repeat (first | with_reducible exact Chg.refl _ _ | with_reducible exact chg0 | with_reducible refine Chg.drewN ?_ _ | with_reducible refine Chg.drew ?_ | with_reducible refine Chg.alloc ?_ _ | with_reducible refine Chg.setCell ?_ _ _ (by first | (simp; done) | omega | (simp; omega)) | with_reducible refine Chg.setBlock ?_ _ _ (by first | (simp; done) | omega | (simp; omega)) | exact Chg.refl _ _)); done) | fail) (first
          | (go_at_call 32; refine (HI.out _ (HNW.out.cpu.chg (S := fun _ => False) (by repeat (first | with_reducible exact Chg.refl _ _ | with_reducible exact chg0 | with_reducible refine Chg.drewN ?_ _ | with_reducible refine Chg.drew ?_ | with_reducible refine Chg.alloc ?_ _ | with_reducible refine Chg.setCell ?_ _ _ (by first | (simp; done) | omega | (simp; omega)) | with_reducible refine Chg.setBlock ?_ _ _ (by first | (simp; done) | omega | (simp; omega)) | exact Chg.refl _ _)) (fun h => h))).mono ?_; rintro e w5 ⟨rfl, hP5, hc5⟩; have hS := keepIs hc5 nPC nKC (by first | assumption | (refine keepIs (S := fun _ => False) ?_ (fun h => h) (fun h => h) hS; (repeat (first | with_reducible exact Chg.refl _ _ | with_reducible exact chg0 | with_reducible refine Chg.drewN ?_ _ | with_reducible refine Chg.drew ?_ | with_reducible refine Chg.alloc ?_ _ | with_reducible refine Chg.setCell ?_ _ _ (by first | (simp; done) | omega | (simp; omega)) | with_reducible refine Chg.setBlock ?_ _ _ (by first | (simp; done) | omega | (simp; omega)) | exact Chg.refl _ _)); done) | fail))
          | fail)
        all_goals (go_wp2_with fail)
        all_goals go_meet
        all_goals exact ⟨rfl, hP5.chg (S := fun _ => False) (by repeat (first | with_reducible exact Chg.refl _ _ | with_reducible exact chg0 | with_reducible refine Chg.drewN ?_ _ | with_reducible refine Chg.drew ?_ | with_reducible refine Chg.alloc ?_ _ | with_reducible refine Chg.setCell ?_ _ _ (by first | (simp; done) | omega | (simp; omega)) | with_reducible refine Chg.setBlock ?_ _ _ (by first | (simp; done) | omega | (simp; omega)) | exact Chg.refl _ _)) (fun h => h), (Chg.trans (S' := fun j => j = a.cp) (by repeat (first | with_reducible exact Chg.refl _ _ | with_reducible exact chg0 | with_reducible refine Chg.drewN ?_ _ | with_reducible refine Chg.drew ?_ | with_reducible refine Chg.alloc ?_ _ | with_reducible refine Chg.setCell ?_ _ _ (by first | (simp; done) | omega | (simp; omega)) | with_reducible refine Chg.setBlock ?_ _ _ (by first | (simp; done) | omega | (simp; omega)) | exact Chg.refl _ _)) hc5 (fun _ _ h => h)).trans (S' := fun _ => False) (by repeat (first | with_reducible exact Chg.refl _ _ | with_reducible exact chg0 | with_reducible refine Chg.drewN ?_ _ | with_reducible refine Chg.drew ?_ | with_reducible refine Chg.alloc ?_ _ | with_reducible refine Chg.setCell ?_ _ _ (by first | (simp; done) | omega | (simp; omega)) | with_reducible refine Chg.setBlock ?_ _ _ (by first | (simp; done) | omega | (simp; omega)) | exact Chg.refl _ _)) (fun _ _ h => h.elim)⟩
      case rest =>
        obtain ⟨rfl, hP5, hc5⟩ := hcut
        have hnP : ∀ j, w.heap.size ≤ j → ¬ j = a.cp := fun j hj e => by
          have h1 := H.out.lt a.cp (.inl (by simp [NAddr.list]))
          omega
        have p1 := hc5.ob o1 (hnP _ (Nat.le_refl _))
        have p2 := hc5.ob o2 (hnP _ (by omega))
        have p3 := hc5.ob o3 (hnP _ (by omega))
        have p4 := hc5.ob o4 (hnP _ (by omega))
        have P1 := Lib.hid p1
        have P2 := Lib.hid p2
        have P3 := Lib.hid p3
        have P4 := Lib.hid p4
        have m4 := ob_lt p4
        clear o1 o2 o3 o4 x0 x1 x2 xf y0 y1 y2 yf k30 k31 k3f k3g k40 k41 l3 l4 c0 c1 c2 c3 c4 c5 c6 c7 c8 c9 c10 c11 c12 c13 c14 cf cl
        have hiss : n.cpu.issue op = if n.cpu.busy = true then (n.cpu, false) else ({ n.cpu with timer := Timer.start n.cpu.wait, number := n.cpu.number + 1, op := op, busy := true }, true) := rfl
        have hr := HRr.out
        rw [hiss] at hr
        obtain ⟨bz, hbz⟩ : ∃ b, b = n.cpu.busy := ⟨_, rfl⟩
        rw [← hbz] at hr
        have HBZ := Lib.hid hbz
        clear hiss hbz
        cases bz
        · obtain rfl : r = ({ n.cpu with timer := Timer.start n.cpu.wait, number := n.cpu.number + 1, op := op, busy := true }, true) := by rw [hr]; rfl
          have HP5 := Lib.hid hP5
          have HC5 := Lib.hid hc5
          clear hP5 hc5 hr HI
          go_wp2_with fail
          obtain ⟨hN6, mv6⟩ := HNW.out.cpuL HP5.out HC5.out ⟨HNW.out.sane.c, HNW.out.sane.id, HNW.out.sane.wait, HNW.out.sane.tries, fun _ => ⟨by have := Q1.out; omega, by have := Q2.out; omega⟩⟩
          obtain ⟨F6, hR6, hF6⟩ := hN6.start (q := w.heap.size + 1 + 1 + 1) p4 (fun hf => by have := H.out.lt _ hf; omega)
          refine (settle_calls hR6 (by simp) (by simp)).mono ?_
          rintro e w7 ⟨rfl, F7, hR7, m7⟩
          have hlo : ∀ j, w.heap.size ≤ j → j ≠ w.heap.size + 1 + 1 + 1 → ¬ F6 j := fun j hj hne hf => by
            rcases hF6 j hf with h1 | h1
            · have := H.out.lt j h1; omega
            · exact hne h1
          obtain ⟨s1, g1⟩ := m7.aside P1.out (hlo _ (by omega) (by omega))
          obtain ⟨s2, g2⟩ := m7.aside P2.out (hlo _ (by omega) (by omega))
          obtain ⟨s3, g3⟩ := m7.aside P3.out (hlo _ (by omega) (by omega))
          have M6 : Moves w wc (nFp a FC) F6 := ⟨((Moves.none (Chg.of_below BW.out)).trans mv6).chg, fun j hj => (hF6 j hj).imp id (fun e => by omega)⟩
          have M7 := Lib.hid (M6.trans m7)
          obtain ⟨s, hs⟩ : ∃ s, s = Node.settle { n with cpu := { n.cpu with timer := Timer.start n.cpu.wait, number := n.cpu.number + 1, op := op, busy := true } } := ⟨_, rfl⟩
          have hsl := Node.settle_len { n with cpu := { n.cpu with timer := Timer.start n.cpu.wait, number := n.cpu.number + 1, op := op, busy := true } }
          have hHS : n.issue op d = (s.1, if s.1.cpu.busy = true then s.2.1 ++ s.1.ask op d else s.2.1, s.2.2, true) := by
            rw [HS.out, if_neg (by have := Q1.out; have := Q2.out; rw [← HBZ.out]; simp; omega), ← HRr.out, ← hs]
          rw [← hs] at hR7 hsl
          simp only [List.nil_append] at hR7
          have HS7 := Lib.hid hHS
          have HR7 := Lib.hid hR7
          have G1 := Lib.hid g1
          have G2 := Lib.hid g2
          have G3 := Lib.hid g3
          have S3 := Lib.hid s3
          have S1 := Lib.hid s1
          have S2 := Lib.hid s2
          obtain ⟨FC7, hN7, _, _⟩ := hR7.node
          have HN7 := Lib.hid hN7
          obtain ⟨c0, c1, c2, c3, c4, c5, c6, c7, c8, c9, c10, c11, c12, c13, c14, cf, cl⟩ := hN7.cells
          obtain ⟨x0, x1, x2, xf⟩ := ob_cells3 s1
          obtain ⟨y0, y1, y2, yf⟩ := ob_cells3 s2
          have lx := ob_lt s1
          have ly := ob_lt s2
          have lz := ob_lt s3
          clear hHS HS hs hR7 g1 g2 g3 hN7 M6 m7 hR6 hN6 mv6 hlo p1 p2 p3 p4 s1 s2 s3 P1 P2 P3 P4 hF6
          have HA := Lib.hid (fun (V : World) (F' : Nat → Prop) (hV : Run V a (w.heap.size + 1 + 1 + 1) s.1 s.2.1 s.2.2 F') => ask_calls op d hV (by omega))
          simp only [Op.val, Op.cells, Draws.val, Draws.cells] at HA
          go_wp2_with fail
          refine (Pending_calls (HN7.out.cpu.below (Chg.below (by repeat (first | with_reducible exact Chg.refl _ _ | with_reducible exact chg0 | with_reducible refine Chg.drewN ?_ _ | with_reducible refine Chg.drew ?_ | with_reducible refine Chg.alloc ?_ _ | with_reducible refine Chg.setCell ?_ _ _ (by first | (simp; done) | omega | (simp; omega)) | with_reducible refine Chg.setBlock ?_ _ _ (by first | (simp; done) | omega | (simp; omega)) | exact Chg.refl _ _))))).mono ?_
          rintro e w8 ⟨rfl, hb8⟩
          have b8 : Below w7.heap.size w7 w8 := below_trans (Chg.below (by repeat (first | with_reducible exact Chg.refl _ _ | with_reducible exact chg0 | with_reducible refine Chg.drewN ?_ _ | with_reducible refine Chg.drew ?_ | with_reducible refine Chg.alloc ?_ _ | with_reducible refine Chg.setCell ?_ _ _ (by first | (simp; done) | omega | (simp; omega)) | with_reducible refine Chg.setBlock ?_ _ _ (by first | (simp; done) | omega | (simp; omega)) | exact Chg.refl _ _))) hb8
          have B8 := Lib.hid b8
          obtain ⟨bz, hbz⟩ : ∃ b, b = s.1.cpu.busy := ⟨_, rfl⟩
          rw [← hbz] at HS7 ⊢
          have n7 : w7.heap.size ≤ w8.heap.size := b8.size
          have e1 : ob w8 w.heap.size = some (.cells #[Value.int IntKind.i64 op.block, Value.bool op.write, Value.int IntKind.i64 op.value] 25 (0, 0)) := ob_step b8 S1.out
          have e2 : ob w8 (w.heap.size + 1) = some (.cells #[Value.int IntKind.i64 d.d0, Value.int IntKind.i64 d.d1, Value.int IntKind.i64 d.d2] 39 (0, 0)) := ob_step b8 S2.out
          have e3 : ob w8 (w.heap.size + 1 + 1) = some (.cells #[Value.slice none 0 0, Value.slice none 0 0] 35 (0, 0)) := ob_step b8 S3.out
          have HR8 := Lib.hid (HR7.out.below b8)
          have M8 := Lib.hid (M7.out.trans (Moves.none (Chg.of_below b8)))
          have HX := Lib.hid hsl
          have E3 := Lib.hid e3
          clear hbz hsl b8 hb8 x0 x1 x2 xf y0 y1 y2 yf c0 c1 c2 c3 c4 c5 c6 c7 c8 c9 c10 c11 c12 c13 c14 cf cl
          obtain ⟨x0, x1, x2, xf⟩ := ob_cells3 e1
          obtain ⟨y0, y1, y2, yf⟩ := ob_cells3 e2
          have lx' := ob_lt e1
          have ly' := ob_lt e2
          have lz' := ob_lt e3
          clear e1 e2 e3
          simp only [Op.val, Op.cells]
          cases bz
          · obtain ⟨FC9, A1, n1, z1, A2, n2, z2, hS9, hq9, hF9⟩ := HR8.out.ended H.out M8.out (by omega)
            have k40 : w8.cell? ⟨w.heap.size + 1 + 1 + 1, 0, none⟩ = some (.slice A1 n1 z1) := cell_ob hq9 0
            have k41 : w8.cell? ⟨w.heap.size + 1 + 1 + 1, 1, none⟩ = some (.slice A2 n2 z2) := cell_ob hq9 1
            have k30 : w8.cell? ⟨w.heap.size + 1 + 1, 0, none⟩ = some (.slice none 0 0) := cell_ob E3.out 0
            have k31 : w8.cell? ⟨w.heap.size + 1 + 1, 1, none⟩ = some (.slice none 0 0) := cell_ob E3.out 1
            have k3f : w8.frozen? ⟨w.heap.size + 1 + 1, 0, none⟩ = false := frozen_ob E3.out 0
            have k3g : w8.frozen? ⟨w.heap.size + 1 + 1, 1, none⟩ = false := frozen_ob E3.out 1
            have HS9 := Lib.hid hS9
            have HF9 := Lib.hid hF9
            have lq9 := ob_lt hq9
            clear hS9 hF9 hq9 x0 x1 x2 xf y0 y1 y2 yf
            go_wp2_with fail
            (try simp only [Exit.inBlock, Exit.then])
            refine bodyRet2 _ _ rfl rfl (ResIs.row Tryz.underlying35 rfl (by kernel_rfl) rfl (by first | (simp [go_sem, E3.out, lz', setAt]; done) | (simp [go_sem, E3.out, lz', setAt]; exact ⟨rfl, rfl, rfl⟩))) ResIs.tmp ?_
            refine ⟨FC9, _, _, by rw [HS7.out]; rfl, ?_⟩
            rw [HS7.out]
            exact HS9.out.put (S := fun j => j = w.heap.size + 1 + 1) (by repeat (first | exact Chg.refl _ _ | refine Chg.setCell ?_ _ _ (fun _ => rfl) | refine Chg.alloc ?_ _ | refine Chg.drewN ?_ _)) fun j e => ⟨by omega, fun hf => G3.out (HF9.out _ (by subst e; exact hf))⟩
          · go_wp2_with fail
            refine (HA.out _ _ (HR8.out.below (Chg.below (by repeat (first | with_reducible exact Chg.refl _ _ | with_reducible exact chg0 | with_reducible refine Chg.drewN ?_ _ | with_reducible refine Chg.drew ?_ | with_reducible refine Chg.alloc ?_ _ | with_reducible refine Chg.setCell ?_ _ _ (by first | (simp; done) | omega | (simp; omega)) | with_reducible refine Chg.setBlock ?_ _ _ (by first | (simp; done) | omega | (simp; omega)) | exact Chg.refl _ _))))).mono ?_
            rintro e w9 ⟨rfl, F9, hR9, m9⟩
            have M9 := Lib.hid (M8.out.trans ((Moves.none (F := F7) (by repeat (first | with_reducible exact Chg.refl _ _ | with_reducible exact chg0 | with_reducible refine Chg.drewN ?_ _ | with_reducible refine Chg.drew ?_ | with_reducible refine Chg.alloc ?_ _ | with_reducible refine Chg.setCell ?_ _ _ (by first | (simp; done) | omega | (simp; omega)) | with_reducible refine Chg.setBlock ?_ _ _ (by first | (simp; done) | omega | (simp; omega)) | exact Chg.refl _ _))).trans m9))
            obtain ⟨E9, G9⟩ := m9.aside (Chg.ob (S := fun _ => False) (by repeat (first | with_reducible exact Chg.refl _ _ | with_reducible exact chg0 | with_reducible refine Chg.drewN ?_ _ | with_reducible refine Chg.drew ?_ | with_reducible refine Chg.alloc ?_ _ | with_reducible refine Chg.setCell ?_ _ _ (by first | (simp; done) | omega | (simp; omega)) | with_reducible refine Chg.setBlock ?_ _ _ (by first | (simp; done) | omega | (simp; omega)) | exact Chg.refl _ _)) E3.out (fun h => h)) G3.out
            have lz9 := ob_lt E9
            obtain ⟨FC9, A1, n1, z1, A2, n2, z2, hS9, hq9, hF9⟩ := hR9.ended H.out M9.out (by omega)
            have k40 : w9.cell? ⟨w.heap.size + 1 + 1 + 1, 0, none⟩ = some (.slice A1 n1 z1) := cell_ob hq9 0
            have k41 : w9.cell? ⟨w.heap.size + 1 + 1 + 1, 1, none⟩ = some (.slice A2 n2 z2) := cell_ob hq9 1
            have k30 : w9.cell? ⟨w.heap.size + 1 + 1, 0, none⟩ = some (.slice none 0 0) := cell_ob E9 0
            have k31 : w9.cell? ⟨w.heap.size + 1 + 1, 1, none⟩ = some (.slice none 0 0) := cell_ob E9 1
            have k3f : w9.frozen? ⟨w.heap.size + 1 + 1, 0, none⟩ = false := frozen_ob E9 0
            have k3g : w9.frozen? ⟨w.heap.size + 1 + 1, 1, none⟩ = false := frozen_ob E9 1
            have HS9 := Lib.hid hS9
            have HF9 := Lib.hid hF9
            have HE9 := Lib.hid E9
            have HG9 := Lib.hid G9
            have lq9 := ob_lt hq9
            clear hS9 hF9 hq9 x0 x1 x2 xf y0 y1 y2 yf hR9 m9 E9 G9 lx' ly' lx ly
            go_wp2_with fail
            (try simp only [Exit.inBlock, Exit.then])
            refine bodyRet2 _ _ rfl rfl (ResIs.row Tryz.underlying35 rfl (by kernel_rfl) rfl (by first | (simp [go_sem, HE9.out, lz9, setAt]; done) | (simp [go_sem, HE9.out, lz9, setAt]; exact ⟨rfl, rfl, rfl⟩))) ResIs.tmp ?_
            refine ⟨FC9, _, _, by rw [HS7.out]; rfl, ?_⟩
            rw [HS7.out]
            exact HS9.out.put (S := fun j => j = w.heap.size + 1 + 1) (by repeat (first | exact Chg.refl _ _ | refine Chg.setCell ?_ _ _ (fun _ => rfl) | refine Chg.alloc ?_ _ | refine Chg.drewN ?_ _)) fun j e => ⟨by omega, fun hf => HG9.out (HF9.out _ (by subst e; exact hf))⟩
        · obtain rfl : r = (n.cpu, false) := by rw [hr]; rfl
          clear hr HI
          obtain ⟨hN5, mv5⟩ := HNW.out.cpuL hP5 hc5 HNW.out.sane
          have k30 : wc.cell? ⟨w.heap.size + 1 + 1, 0, none⟩ = some (.slice none 0 0) := cell_ob p3 0
          have k31 : wc.cell? ⟨w.heap.size + 1 + 1, 1, none⟩ = some (.slice none 0 0) := cell_ob p3 1
          have k3f : wc.frozen? ⟨w.heap.size + 1 + 1, 0, none⟩ = false := frozen_ob p3 0
          have k3g : wc.frozen? ⟨w.heap.size + 1 + 1, 1, none⟩ = false := frozen_ob p3 1
          have k40 : wc.cell? ⟨w.heap.size + 1 + 1 + 1, 0, none⟩ = some (.slice none 0 0) := cell_ob p4 0
          have k41 : wc.cell? ⟨w.heap.size + 1 + 1 + 1, 1, none⟩ = some (.slice none 0 0) := cell_ob p4 1
          have l3 := ob_lt p3
          have l4 := ob_lt p4
          go_wp2_with fail
          (try simp only [Exit.inBlock, Exit.then])
          refine bodyRet2 _ _ rfl rfl (ResIs.row Tryz.underlying35 rfl (by kernel_rfl) rfl (by first | (simp [go_sem, p3, l3, setAt]; done) | (simp [go_sem, p3, l3, setAt]; exact ⟨rfl, rfl, rfl⟩))) ResIs.tmp ?_
          rw [HS.out, if_pos (.inr (.inr HBZ.out.symm))]
          have hct : Chg (fun j => w.heap.size ≤ j) wc ((wc.setCell ⟨w.heap.size + 1 + 1, 0, none⟩ (.slice none 0 0)).setCell ⟨w.heap.size + 1 + 1, 1, none⟩ (.slice none 0 0)) := ((Chg.refl _ _).setCell _ _ (fun _ => by simp only; omega)).setCell _ _ (fun _ => by simp only; omega)
          exact ⟨FC, _, _, rfl, Sent.nil (n := n) (hN5.chg hct fun j hj h => Nat.not_le_of_lt (H.out.lt j hj) h) ⟨((Moves.none (Chg.of_below BW.out)).trans mv5).chg.trans hct fun j hj h => absurd h (Nat.not_le_of_lt hj), fun j hj => .inl hj⟩⟩
end
end Go.Proofs.YtchlioikkhnidaaGreat
