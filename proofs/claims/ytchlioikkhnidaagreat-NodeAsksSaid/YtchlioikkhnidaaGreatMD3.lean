/-
  The document's node: what is issued, and a tick, while nothing can be done.
-/
import Derived.Test.YtchlioikkhnidaaGreatMD2
set_option linter.unusedVariables false
set_option linter.unusedSimpArgs false
namespace Go.Proofs.YtchlioikkhnidaaGreat
open Go.RowKit Go.Sort Go.ChangeShapes Go.WideShapes Go.ChangeAt
open Go.ChangeMaps (setBlock)
set_option linter.unusedVariables false
set_option linter.unusedSimpArgs false
section
variable {w w' : World} {r : RAddr} {n n' : Node} {F F' : Nat → Prop} {vA vT : Value} {oT : Obj} {S : Nat → Prop}
theorem RNodeIn.cacheL (h : RNodeIn w r n F vA vT oT) {c' : CacheM} (h1 : RefCacheAt w' r.q c' F') (mv : Moves w w' F F') : RNodeIn w' r { n with cache := c' } F' vA vT oT ∧ Moves w w' (rFp r F) (rFp r F') := by
  have nf : ∀ j, j < w.heap.size → ¬ F j → ¬ F' j := fun j hj hn hf => (mv.fresh j hf).elim hn fun h => by omega
  obtain ⟨LA, ha, hb⟩ := h.asked
  obtain ⟨e1, e2, e3, e4, e5, e6⟩ := h.ne
  refine ⟨⟨mv.chg.ob h.at_ e4, h1, mv.chg.ob h.tab e5, h.proc.chg mv.chg e6, ⟨LA, ha.chg mv.chg fun k hk => (h.apart k hk).2.2.2, hb⟩, ⟨e1, e2, e3, nf _ (ob_lt h.at_) e4, nf _ (ob_lt h.tab) e5, nf _ h.proc.lt e6⟩, fun j hj => ⟨(h.apart j hj).1, (h.apart j hj).2.1, (h.apart j hj).2.2.1, nf _ (ha.lt hj) (h.apart j hj).2.2.2⟩, h.c, h.id⟩, ⟨mv.chg.mono fun j _ hj => .inr (.inr (.inr hj)), fun j hj => ?_⟩⟩
  rcases hj with rfl | rfl | rfl | hj
  · exact .inl (.inl rfl)
  · exact .inl (.inr (.inl rfl))
  · exact .inl (.inr (.inr (.inl rfl)))
  · exact (mv.fresh j hj).imp (fun h => .inr (.inr (.inr h))) (fun h => h)
theorem RNodeIn.cpuL (h : RNodeIn w r n F vA vT oT) {s : Proc} (h1 : RProcAt w' r.c s) (hc : Chg (fun j => j = r.c) w w') : RNodeIn w' r { n with cpu := s } F vA vT oT ∧ Moves w w' (rFp r F) (rFp r F) := by
  obtain ⟨LA, ha, hb⟩ := h.asked
  obtain ⟨e1, e2, e3, e4, e5, e6⟩ := h.ne
  exact ⟨⟨hc.ob h.at_ e2, h.cache.chg hc fun j hj e => by subst e; exact e6 hj, hc.ob h.tab e3, h1, ⟨LA, ha.chg hc fun k hk e => (h.apart k hk).2.2.1 e, hb⟩, h.ne, h.apart, h.c, h.id⟩, ⟨hc.mono fun j _ e => .inr (.inr (.inl e)), fun j hj => .inl hj⟩⟩
theorem does_no {c : CacheM} {op : Op} {t : Int} (h : (c.does op t).2.2 = false) : (c.does op t).1 = c := by
  revert h
  unfold CacheM.does
  split
  · intro h; cases h
  · intro _; rfl
set_option maxHeartbeats 8000000 in
set_option maxRecDepth 20000 in
theorem RefSettle15_no (h : RNodeIn w r n F vA vT oT) (hb : n.cpu.busy = true) (hd : (n.cache.does n.cpu.op n.c.tokens).2.2 = false) :
    Calls Tryz.prog 53 #[.pointer (some ⟨r.p, 0, none⟩)] w fun e w' => e = .returned (.tuple #[.slice none 0 0, .slice none 0 0]) ∧ ∃ F', RNodeIn w' r n F' vA vT oT ∧ Moves w w' (rFp r F) (rFp r F') := by
  have H := Lib.hid h
  obtain ⟨c0, c1, c2, c3, c4, c5, c6, c7, c8, c9, c10, c11, c12, _, _⟩ := h.cOb
  have lp := ob_lt h.at_
  obtain ⟨k0, k1, k2, k3, k4, k5, k6, k7, k8, k9, kf, kl⟩ := ob_cells10 h.proc.1
  rw [hb] at k6
  have HDo := Lib.hid (fun (V : World) (hV : RNodeIn V r n F vA vT oT) => RefCacheDo_calls n.cpu.op n.c.tokens hV.cache)
  rw [hd, does_no hd] at HDo
  clear h hb hd
  simp only [Op.val, Op.cells] at HDo
  go_enter Tryz.func53, Tryz.ntmps53
  go_upto_region 4 with fail
  obtain ⟨W, hW⟩ : ∃ W, W = w.alloc (Obj.cells #[Value.int IntKind.i64 n.cpu.op.block, Value.bool n.cpu.op.write, Value.int IntKind.i64 n.cpu.op.value] 25) := ⟨_, rfl⟩
  rw [← hW]
  have bW : Below w.heap.size w W := by rw [hW]; exact Chg.below (by repeat (first | with_reducible exact Chg.refl _ _ | with_reducible exact chg0 | with_reducible refine Chg.drewN ?_ _ | with_reducible refine Chg.drew ?_ | with_reducible refine Chg.alloc ?_ _ | with_reducible refine Chg.setCell ?_ _ _ (by first | (simp; done) | omega | (simp; omega)) | with_reducible refine Chg.setBlock ?_ _ _ (by first | (simp; done) | omega | (simp; omega)) | exact Chg.refl _ _))
  have oW : ob W w.heap.size = some (Obj.cells #[Value.int IntKind.i64 n.cpu.op.block, Value.bool n.cpu.op.write, Value.int IntKind.i64 n.cpu.op.value] 25 (0, 0)) := by rw [hW]; simp [go_sem]
  have HW := Lib.hid (H.out.below bW)
  have BW := Lib.hid bW
  clear hW c0 c1 c2 c3 c4 c5 c6 c7 c8 c9 c10 c11 c12 lp k0 k1 k2 k3 k4 k5 k6 k7 k8 k9 kf kl bW
  obtain ⟨c0, c1, c2, c3, c4, c5, c6, c7, c8, c9, c10, c11, c12, _, _⟩ := HW.out.cOb
  have lp := ob_lt HW.out.at_
  obtain ⟨e0, e1, e2, ef⟩ := ob_cells3 oW
  have le := ob_lt oW
  clear oW
  go_region_law (go_simp; go_at_call 103; refine (HDo.out _ (HW.out.below (Chg.below (by repeat (first | with_reducible exact Chg.refl _ _ | with_reducible exact chg0 | with_reducible refine Chg.drewN ?_ _ | with_reducible refine Chg.drew ?_ | with_reducible refine Chg.alloc ?_ _ | with_reducible refine Chg.setCell ?_ _ _ (by first | (simp; done) | omega | (simp; omega)) | with_reducible refine Chg.setBlock ?_ _ _ (by first | (simp; done) | omega | (simp; omega)) | exact Chg.refl _ _))))).mono ?_; rintro e w2 ⟨rfl, F2, h2, m2⟩; have hm := (HW.out.below (w' := _) (Chg.below (by repeat (first | with_reducible exact Chg.refl _ _ | with_reducible exact chg0 | with_reducible refine Chg.drewN ?_ _ | with_reducible refine Chg.drew ?_ | with_reducible refine Chg.alloc ?_ _ | with_reducible refine Chg.setCell ?_ _ _ (by first | (simp; done) | omega | (simp; omega)) | with_reducible refine Chg.setBlock ?_ _ _ (by first | (simp; done) | omega | (simp; omega)) | exact Chg.refl _ _)))).cacheL h2 m2; have HM := Lib.hid (And.intro hm.1 ((Moves.none (F := rFp r F) (Chg.of_below (below_trans BW.out (Chg.below (by repeat (first | with_reducible exact Chg.refl _ _ | with_reducible exact chg0 | with_reducible refine Chg.drewN ?_ _ | with_reducible refine Chg.drew ?_ | with_reducible refine Chg.alloc ?_ _ | with_reducible refine Chg.setCell ?_ _ _ (by first | (simp; done) | omega | (simp; omega)) | with_reducible refine Chg.setBlock ?_ _ _ (by first | (simp; done) | omega | (simp; omega)) | exact Chg.refl _ _)))))).trans hm.2)); clear h2 m2 hm)
  all_goals (go_wp2_with fail)
  all_goals go_ret2
  all_goals exact ⟨rfl, F2, HM.out.1.below (Chg.below (by repeat (first | with_reducible exact Chg.refl _ _ | with_reducible exact chg0 | with_reducible refine Chg.drewN ?_ _ | with_reducible refine Chg.drew ?_ | with_reducible refine Chg.alloc ?_ _ | with_reducible refine Chg.setCell ?_ _ _ (by first | (simp; done) | omega | (simp; omega)) | with_reducible refine Chg.setBlock ?_ _ _ (by first | (simp; done) | omega | (simp; omega)) | exact Chg.refl _ _))), HM.out.2.trans (Moves.none (by repeat (first | with_reducible exact Chg.refl _ _ | with_reducible exact chg0 | with_reducible refine Chg.drewN ?_ _ | with_reducible refine Chg.drew ?_ | with_reducible refine Chg.alloc ?_ _ | with_reducible refine Chg.setCell ?_ _ _ (by first | (simp; done) | omega | (simp; omega)) | with_reducible refine Chg.setBlock ?_ _ _ (by first | (simp; done) | omega | (simp; omega)) | exact Chg.refl _ _)))⟩
set_option maxHeartbeats 8000000 in
set_option maxRecDepth 20000 in
theorem RefIssue15_new (op : Op) (d : Draws) (h : RNodeIn w r n F vA vT oT) (hb : 0 ≤ op.block ∧ op.block < n.c.blocks) (hnb : n.cpu.busy = false) (hn : n.cpu.number < 1000000000) (hd : (n.cache.does op n.c.tokens).2.2 = false) :
    Calls Tryz.prog 21 #[.pointer (some ⟨r.p, 0, none⟩), op.val, d.val] w fun e w' => ∃ v F', e = .returned (.tuple #[v, .slice none 0 0, .bool true]) ∧ RNodeIn w' r { n with cpu := (n.cpu.issue op).1 } F' vA vT oT ∧ Moves w w' (rFp r F) (rFp r F') := by
  have H := Lib.hid h
  have hlt := h.lt
  have HLT := Lib.hid hlt
  have hi2 : (n.cpu.issue op).2 = true := by unfold Proc.issue; rw [if_neg (by simp [hnb])]
  have hi1 : (n.cpu.issue op).1.busy = true ∧ (n.cpu.issue op).1.op = op := by unfold Proc.issue; rw [if_neg (by simp [hnb])]; exact ⟨rfl, rfl⟩
  have HIs := Lib.hid (fun (V : World) (hV : RNodeIn V r n F vA vT oT) => RIssue_calls op hV.proc hn)
  rw [hi2] at HIs
  have HSe := Lib.hid (fun (V : World) (F : Nat → Prop) (hV : RNodeIn V r { n with cpu := (n.cpu.issue op).1 } F vA vT oT) => RefSettle15_no hV hi1.1 (by simp only [hi1.2]; exact hd))
  have HAs := Lib.hid (fun (V : World) (F : Nat → Prop) (hV : RNodeIn V r { n with cpu := (n.cpu.issue op).1 } F vA vT oT) => RefAsk15_calls op d hV)
  have HBU := Lib.hid hi1.1
  have q1 : decide (op.block < 0) = false := by simpa using hb.1
  have q2 : decide (n.c.blocks ≤ op.block) = false := by simpa using hb.2
  obtain ⟨oB, oW, oV⟩ := op
  obtain ⟨d0, d1, d2⟩ := d
  clear h hb hnb hn hd hi1 hi2 hlt
  simp only [Op.val, Op.cells, Draws.val, Draws.cells] at HIs HAs ⊢
  simp only at q1 q2
  have HLL := Lib.hid (show (({ n with cpu := (n.cpu.issue ⟨oB, oW, oV⟩).1 } : Node).ask ⟨oB, oW, oV⟩ ⟨d0, d1, d2⟩).length ≤ 65 from ask_len _ _ _ H.out.c.nodes.2)
  generalize (n.cpu.issue ⟨oB, oW, oV⟩).1 = s1 at HIs HSe HAs HBU HLL
  generalize ({ n with cpu := s1 } : Node).ask ⟨oB, oW, oV⟩ ⟨d0, d1, d2⟩ = LA at HAs HLL
  go_enter Tryz.func21, Tryz.ntmps21
  go_upto_region 1 with fail
  obtain ⟨W, hW⟩ : ∃ W, W = ((w.alloc (Obj.cells #[Value.int IntKind.i64 oB, Value.bool oW, Value.int IntKind.i64 oV] 25)).alloc (Obj.cells #[Value.int IntKind.i64 d0, Value.int IntKind.i64 d1, Value.int IntKind.i64 d2] 38)) := ⟨_, rfl⟩
  rw [← hW]
  have bW : Below w.heap.size w W := by rw [hW]; exact Chg.below (by repeat (first | with_reducible exact Chg.refl _ _ | with_reducible exact chg0 | with_reducible refine Chg.drewN ?_ _ | with_reducible refine Chg.drew ?_ | with_reducible refine Chg.alloc ?_ _ | with_reducible refine Chg.setCell ?_ _ _ (by first | (simp; done) | omega | (simp; omega)) | with_reducible refine Chg.setBlock ?_ _ _ (by first | (simp; done) | omega | (simp; omega)) | exact Chg.refl _ _))
  have oW1 : ob W w.heap.size = some (.cells #[Value.int IntKind.i64 oB, Value.bool oW, Value.int IntKind.i64 oV] 25 (0, 0)) := by rw [hW]; simp [go_sem]
  have oW2 : ob W (w.heap.size + 1) = some (.cells #[Value.int IntKind.i64 d0, Value.int IntKind.i64 d1, Value.int IntKind.i64 d2] 38 (0, 0)) := by rw [hW]; simp [go_sem]
  have HW := Lib.hid (H.out.below bW)
  have BW := Lib.hid bW
  have O12 := Lib.hid (And.intro oW1 oW2)
  clear hW
  obtain ⟨c0, c1, c2, c3, c4, c5, c6, c7, c8, c9, c10, c11, c12, _, _⟩ := HW.out.cOb
  have lp := ob_lt HW.out.at_
  obtain ⟨e0, e1, e2, ef⟩ := ob_cells3 oW1
  have le := ob_lt oW1
  clear bW oW1 oW2
  go_cut [32] (fun s32 wx => s32 = .bool false ∧ RNodeIn wx r { n with cpu := s1 } F vA vT oT ∧ Chg (fun j => j = r.c) W wx)
  case first =>
    go_region_law (go_simp; go_at_call 52; refine (HIs.out _ (HW.out.below (Chg.below (by repeat (first | with_reducible exact Chg.refl _ _ | with_reducible exact chg0 | with_reducible refine Chg.drewN ?_ _ | with_reducible refine Chg.drew ?_ | with_reducible refine Chg.alloc ?_ _ | with_reducible refine Chg.setCell ?_ _ _ (by first | (simp; done) | omega | (simp; omega)) | with_reducible refine Chg.setBlock ?_ _ _ (by first | (simp; done) | omega | (simp; omega)) | exact Chg.refl _ _))))).mono ?_; rintro e w2 ⟨rfl, h2, m2⟩; have hm := (HW.out.below (w' := _) (Chg.below (by repeat (first | with_reducible exact Chg.refl _ _ | with_reducible exact chg0 | with_reducible refine Chg.drewN ?_ _ | with_reducible refine Chg.drew ?_ | with_reducible refine Chg.alloc ?_ _ | with_reducible refine Chg.setCell ?_ _ _ (by first | (simp; done) | omega | (simp; omega)) | with_reducible refine Chg.setBlock ?_ _ _ (by first | (simp; done) | omega | (simp; omega)) | exact Chg.refl _ _)))).cpuL h2 m2; have hch : Chg (fun j => j = r.c) W w2 := Chg.trans (S' := fun j => j = r.c) (by repeat (first | with_reducible exact Chg.refl _ _ | with_reducible exact chg0 | with_reducible refine Chg.drewN ?_ _ | with_reducible refine Chg.drew ?_ | with_reducible refine Chg.alloc ?_ _ | with_reducible refine Chg.setCell ?_ _ _ (by first | (simp; done) | omega | (simp; omega)) | with_reducible refine Chg.setBlock ?_ _ _ (by first | (simp; done) | omega | (simp; omega)) | exact Chg.refl _ _)) m2 (fun _ _ h => h))
    all_goals (go_wp2_with fail)
    all_goals go_meet
    all_goals exact ⟨rfl, hm.1.below (Chg.below (by repeat (first | with_reducible exact Chg.refl _ _ | with_reducible exact chg0 | with_reducible refine Chg.drewN ?_ _ | with_reducible refine Chg.drew ?_ | with_reducible refine Chg.alloc ?_ _ | with_reducible refine Chg.setCell ?_ _ _ (by first | (simp; done) | omega | (simp; omega)) | with_reducible refine Chg.setBlock ?_ _ _ (by first | (simp; done) | omega | (simp; omega)) | exact Chg.refl _ _))), hch.trans (S' := fun _ => False) (by repeat (first | with_reducible exact Chg.refl _ _ | with_reducible exact chg0 | with_reducible refine Chg.drewN ?_ _ | with_reducible refine Chg.drew ?_ | with_reducible refine Chg.alloc ?_ _ | with_reducible refine Chg.setCell ?_ _ _ (by first | (simp; done) | omega | (simp; omega)) | with_reducible refine Chg.setBlock ?_ _ _ (by first | (simp; done) | omega | (simp; omega)) | exact Chg.refl _ _)) (fun _ _ h => h.elim)⟩
  case rest =>
  obtain ⟨rfl, hN, hch⟩ := hcut
  have HN := Lib.hid hN
  have nc1 : ¬ w.heap.size = r.c := fun e => by have := HLT.out r.c (.inl (.inr (.inr (.inl rfl)))); omega
  have nc2 : ¬ w.heap.size + 1 = r.c := fun e => by have := HLT.out r.c (.inl (.inr (.inr (.inl rfl)))); omega
  have HO := Lib.hid (And.intro (hch.ob O12.out.1 nc1) (hch.ob O12.out.2 nc2))
  have HM0 := Lib.hid (show Moves w wc (rFp r F) (rFp r F) from (Moves.none (Chg.of_below BW.out)).trans ⟨hch.mono fun j _ e => .inr (.inr (.inl e)), fun j hj => .inl hj⟩)
  clear hN hch c0 c1 c2 c3 c4 c5 c6 c7 c8 c9 c10 c11 c12 lp e0 e1 e2 ef le HIs HW O12
  go_wp2_with fail
  refine (HSe.out _ F (HN.out.below (Chg.below (by repeat (first | with_reducible exact Chg.refl _ _ | with_reducible exact chg0 | with_reducible refine Chg.drewN ?_ _ | with_reducible refine Chg.drew ?_ | with_reducible refine Chg.alloc ?_ _ | with_reducible refine Chg.setCell ?_ _ _ (by first | (simp; done) | omega | (simp; omega)) | with_reducible refine Chg.setBlock ?_ _ _ (by first | (simp; done) | omega | (simp; omega)) | exact Chg.refl _ _))))).mono ?_
  rintro e w3 ⟨rfl, F3, hN3, hm3⟩
  have HN3 := Lib.hid hN3
  have HM3 := Lib.hid (HM0.out.trans ((Moves.none (by repeat (first | with_reducible exact Chg.refl _ _ | with_reducible exact chg0 | with_reducible refine Chg.drewN ?_ _ | with_reducible refine Chg.drew ?_ | with_reducible refine Chg.alloc ?_ _ | with_reducible refine Chg.setCell ?_ _ _ (by first | (simp; done) | omega | (simp; omega)) | with_reducible refine Chg.setBlock ?_ _ _ (by first | (simp; done) | omega | (simp; omega)) | exact Chg.refl _ _))).trans hm3))
  have nf : ∀ k, w.heap.size ≤ k → ¬ rFp r F k := fun k hk hf => by have := HLT.out k (.inl hf); omega
  have hO3 := Chg.ob (S := fun _ => False) (w := wc) (by repeat (first | with_reducible exact Chg.refl _ _ | with_reducible exact chg0 | with_reducible refine Chg.drewN ?_ _ | with_reducible refine Chg.drew ?_ | with_reducible refine Chg.alloc ?_ _ | with_reducible refine Chg.setCell ?_ _ _ (by first | (simp; done) | omega | (simp; omega)) | with_reducible refine Chg.setBlock ?_ _ _ (by first | (simp; done) | omega | (simp; omega)) | exact Chg.refl _ _)) HO.out.1 (fun h => h)
  have hO4 := Chg.ob (S := fun _ => False) (w := wc) (by repeat (first | with_reducible exact Chg.refl _ _ | with_reducible exact chg0 | with_reducible refine Chg.drewN ?_ _ | with_reducible refine Chg.drew ?_ | with_reducible refine Chg.alloc ?_ _ | with_reducible refine Chg.setCell ?_ _ _ (by first | (simp; done) | omega | (simp; omega)) | with_reducible refine Chg.setBlock ?_ _ _ (by first | (simp; done) | omega | (simp; omega)) | exact Chg.refl _ _)) HO.out.2 (fun h => h)
  have HO3 := Lib.hid (And.intro (hm3.chg.ob hO3 (nf _ (Nat.le_refl _))) (hm3.chg.ob hO4 (nf _ (Nat.le_succ _))))
  clear hN3 hm3 hO3 hO4 HN HSe HM0 HO
  obtain ⟨c0, c1, c2, c3, c4, c5, c6, c7, c8, c9, c10, c11, c12, _, _⟩ := HN3.out.cOb
  have lp := ob_lt HN3.out.at_
  obtain ⟨k0, k1, k2, k3, k4, k5, k6, k7, k8, k9, kf, kl⟩ := ob_cells10 HN3.out.proc.1
  rw [show s1.busy = true from HBU.out] at k6
  obtain ⟨e0, e1, e2, ef⟩ := ob_cells3 HO3.out.1
  have le := ob_lt HO3.out.1
  obtain ⟨f0, f1, f2, ff⟩ := ob_cells3 HO3.out.2
  have lf := ob_lt HO3.out.2
  go_wp2_with fail
  refine (HAs.out _ F3 (HN3.out.below (Chg.below (by repeat (first | with_reducible exact Chg.refl _ _ | with_reducible exact chg0 | with_reducible refine Chg.drewN ?_ _ | with_reducible refine Chg.drew ?_ | with_reducible refine Chg.alloc ?_ _ | with_reducible refine Chg.setCell ?_ _ _ (by first | (simp; done) | omega | (simp; omega)) | with_reducible refine Chg.setBlock ?_ _ _ (by first | (simp; done) | omega | (simp; omega)) | exact Chg.refl _ _))))).mono ?_
  rintro e w4 ⟨v4, rfl, ho4, hl4, hb4⟩
  have hb34 := below_trans (Chg.below (w := w3) (by repeat (first | with_reducible exact Chg.refl _ _ | with_reducible exact chg0 | with_reducible refine Chg.drewN ?_ _ | with_reducible refine Chg.drew ?_ | with_reducible refine Chg.alloc ?_ _ | with_reducible refine Chg.setCell ?_ _ _ (by first | (simp; done) | omega | (simp; omega)) | with_reducible refine Chg.setBlock ?_ _ _ (by first | (simp; done) | omega | (simp; omega)) | exact Chg.refl _ _))) hb4
  have HN4 := Lib.hid (HN3.out.below hb34)
  have HM4 := Lib.hid (HM3.out.trans (Moves.none (F := rFp r F3) (Chg.of_below hb34)))
  have HO4 := Lib.hid ho4
  have hll := HLL.out
  clear hb4 hb34 hl4 HAs HN3 HM3 HO3 k0 k1 k2 k3 k4 k5 k6 k7 k8 k9 kf kl c0 c1 c2 c3 c4 c5 c6 c7 c8 c9 c10 c11 c12 lp e0 e1 e2 ef le f0 f1 f2 ff lf ho4
  go_wp2_with (at_builtin; refine wpList_append_sl (v := .slice none 0 0) (xs := []) (ys := LA.map Letter.cells) rfl _ _ rfl tyLetters rfl rfl OwnSl.nil (HO4.out.slice.below (Chg.below (by repeat (first | with_reducible exact Chg.refl _ _ | with_reducible exact chg0 | with_reducible refine Chg.drewN ?_ _ | with_reducible refine Chg.drew ?_ | with_reducible refine Chg.alloc ?_ _ | with_reducible refine Chg.setCell ?_ _ _ (by first | (simp; done) | omega | (simp; omega)) | with_reducible refine Chg.setBlock ?_ _ _ (by first | (simp; done) | omega | (simp; omega)) | exact Chg.refl _ _)))) (letters_ok LA) (by simp only [List.length_nil, List.length_map]; omega) ?_; intro v5 w5 ho5 hc5 hloc5; have hb5 : Below w4.heap.size w4 w5 := below_trans (Chg.below (by repeat (first | with_reducible exact Chg.refl _ _ | with_reducible exact chg0 | with_reducible refine Chg.drewN ?_ _ | with_reducible refine Chg.drew ?_ | with_reducible refine Chg.alloc ?_ _ | with_reducible refine Chg.setCell ?_ _ _ (by first | (simp; done) | omega | (simp; omega)) | with_reducible refine Chg.setBlock ?_ _ _ (by first | (simp; done) | omega | (simp; omega)) | exact Chg.refl _ _))) (Chg.below (hc5.mono (fun j _ e => by cases e))))
  go_ret3
  exact ⟨v5, F3, rfl, HN4.out.below (below_trans hb5 (Chg.below (by repeat (first | with_reducible exact Chg.refl _ _ | with_reducible exact chg0 | with_reducible refine Chg.drewN ?_ _ | with_reducible refine Chg.drew ?_ | with_reducible refine Chg.alloc ?_ _ | with_reducible refine Chg.setCell ?_ _ _ (by first | (simp; done) | omega | (simp; omega)) | with_reducible refine Chg.setBlock ?_ _ _ (by first | (simp; done) | omega | (simp; omega)) | exact Chg.refl _ _)))), HM4.out.trans (Moves.none (Chg.of_below (below_trans hb5 (Chg.below (by repeat (first | with_reducible exact Chg.refl _ _ | with_reducible exact chg0 | with_reducible refine Chg.drewN ?_ _ | with_reducible refine Chg.drew ?_ | with_reducible refine Chg.alloc ?_ _ | with_reducible refine Chg.setCell ?_ _ _ (by first | (simp; done) | omega | (simp; omega)) | with_reducible refine Chg.setBlock ?_ _ _ (by first | (simp; done) | omega | (simp; omega)) | exact Chg.refl _ _))))))⟩
theorem RNodeIn.askedL (h : RNodeIn w r n F vA vT oT) {v' : Value} {b : Int} {LA : List Int} (hLA : n.asked b = false ∧ LA.length ≤ 900 ∧ ∀ j, n.asked j = decide (j ∈ LA)) (h1 : ob w' r.p = some (.cells (rCells n.c n.id r v' vT) 112 (0, 0))) (h2 : OwnSl w' 3 1 v' (ints (LA ++ [b]))) (h3 : ∀ j, v'.ownBlock = some j → w.heap.size ≤ j) (hc : Chg (fun j => j = r.p) w w') :
    RNodeIn w' r { n with asked := fun j => if j = b then true else n.asked j } F v' vT oT ∧ Moves w w' (rFp r F) (rFp r F) := by
  obtain ⟨e1, e2, e3, e4, e5, e6⟩ := h.ne
  have hlt := h.lt
  refine ⟨⟨h1, h.cache.chg hc fun j hj e => by subst e; exact e4 hj, hc.ob h.tab (Ne.symm e1), h.proc.chg hc (Ne.symm e2), ⟨LA ++ [b], h2, by simp; omega, fun j => ?_⟩, h.ne, fun j hj => ?_, h.c, h.id⟩, ⟨hc.mono fun j _ e => .inl e, fun j hj => .inl hj⟩⟩
  · show (if j = b then true else n.asked j) = _
    rw [hLA.2.2 j]
    by_cases e : j = b
    · simp [e]
    · simp [e]
  · have hj' := h3 j hj
    have f1 := hlt r.p (.inl (.inl rfl))
    have f2 := hlt r.t (.inl (.inr (.inl rfl)))
    have f3 := hlt r.c (.inl (.inr (.inr (.inl rfl))))
    exact ⟨by omega, by omega, by omega, fun hf => by have := hlt j (.inl (.inr (.inr (.inr hf)))); omega⟩
set_option maxHeartbeats 8000000 in
set_option maxRecDepth 20000 in
theorem RefTick15_calls (d : Draws) (h : RNodeIn w r n F vA vT oT) {K : Nat} (hLen : ∃ LA, OwnSl w 3 1 vA (ints LA) ∧ (LA.length ≤ K ∧ ∀ b, n.asked b = decide (b ∈ LA))) (hK : K ≤ 900) :
    Calls Tryz.prog 22 #[.pointer (some ⟨r.p, 0, none⟩), d.val] w fun e w' => ∃ v vA', e = .returned v ∧ RNodeIn w' r (n.tick d).1 F vA' vT oT ∧ Moves w w' (rFp r F) (rFp r F) ∧ OwnSl w' 44 11 v ((n.tick d).2.map Letter.cells) ∧ (∀ j, v.ownBlock = some j → w.heap.size ≤ j) ∧ ((∃ LA, OwnSl w' 3 1 vA' (ints LA) ∧ (LA.length ≤ K + 1 ∧ ∀ b, (n.tick d).1.asked b = decide (b ∈ LA))) ∧ ∀ j, vA'.ownBlock = some j → vA.ownBlock = some j ∨ w.heap.size ≤ j) := by
  have H := Lib.hid h
  have HLT := Lib.hid h.lt
  have HTk := Lib.hid (fun (V : World) (hV : RNodeIn V r n F vA vT oT) => RPTick_calls hV.proc)
  have hset : n.tick d = if n.cpu.tick.2 = 1 then ({ n with cpu := n.cpu.tick.1 }, n.ask n.cpu.op d) else if n.cpu.tick.2 = 2 ∧ n.asked n.cpu.op.block = false then ({ n with cpu := n.cpu.tick.1, asked := fun j => if j = n.cpu.op.block then true else n.asked j }, [n.home 3 n.cpu.op.block 0]) else ({ n with cpu := n.cpu.tick.1 }, []) := rfl
  have HS := Lib.hid hset
  have HAs := Lib.hid (fun (V : World) (s : Proc) (hV : RNodeIn V r { n with cpu := s } F vA vT oT) => RefAsk15_calls n.cpu.op d hV)
  have HHas := Lib.hid (fun (V : World) (LA : List Int) (hV : OwnSl V 3 1 vA (ints LA)) => RefHas15_calls n.cpu.op.block hV)
  obtain ⟨LA, hLA1, hLA2⟩ := hLen
  have HLA := Lib.hid hLA2
  have HK := Lib.hid hK
  have HLO := Lib.hid hLA1
  obtain ⟨c0, c1, c2, c3, c4, c5, c6, c7, c8, c9, c10, c11, c12, _, _⟩ := h.cOb
  have lp := ob_lt h.at_
  obtain ⟨k0, k1, k2, k3, k4, k5, k6, k7, k8, k9, kf, kl⟩ := ob_cells10 h.proc.1
  obtain ⟨⟨t1, t2⟩, ht⟩ : ∃ t, t = n.cpu.tick := ⟨_, rfl⟩
  simp only [← ht] at HTk HS
  obtain ⟨d0, d1, d2⟩ := d
  clear h hset ht hLA1 hLA2 hK
  simp only [Op.val, Op.cells, Draws.val, Draws.cells] at HAs ⊢
  go_enter Tryz.func22, Tryz.ntmps22
  go_upto_region 2 with fail
  obtain ⟨W, hW⟩ : ∃ W, W = ((w.alloc (Obj.cells #[Value.int IntKind.i64 d0, Value.int IntKind.i64 d1, Value.int IntKind.i64 d2] 38)).alloc (Obj.cells #[Value.int IntKind.i64 n.cpu.op.block, Value.bool n.cpu.op.write, Value.int IntKind.i64 n.cpu.op.value] 25)) := ⟨_, rfl⟩
  rw [← hW]
  have bW : Below w.heap.size w W := by rw [hW]; exact Chg.below (by repeat (first | with_reducible exact Chg.refl _ _ | with_reducible exact chg0 | with_reducible refine Chg.drewN ?_ _ | with_reducible refine Chg.drew ?_ | with_reducible refine Chg.alloc ?_ _ | with_reducible refine Chg.setCell ?_ _ _ (by first | (simp; done) | omega | (simp; omega)) | with_reducible refine Chg.setBlock ?_ _ _ (by first | (simp; done) | omega | (simp; omega)) | exact Chg.refl _ _))
  have oW1 : ob W w.heap.size = some (.cells #[Value.int IntKind.i64 d0, Value.int IntKind.i64 d1, Value.int IntKind.i64 d2] 38 (0, 0)) := by rw [hW]; simp [go_sem]
  have oW2 : ob W (w.heap.size + 1) = some (.cells #[Value.int IntKind.i64 n.cpu.op.block, Value.bool n.cpu.op.write, Value.int IntKind.i64 n.cpu.op.value] 25 (0, 0)) := by rw [hW]; simp [go_sem]
  have HW := Lib.hid (H.out.below bW)
  have BW := Lib.hid bW
  have O12 := Lib.hid (And.intro oW1 oW2)
  have HLW := Lib.hid (HLO.out.chg (S := fun _ => False) (Chg.of_below bW) (fun _ _ h => h))
  clear hW bW oW1 oW2 c0 c1 c2 c3 c4 c5 c6 c7 c8 c9 c10 c11 c12 lp k0 k1 k2 k3 k4 k5 k6 k7 k8 k9 kf kl HLO
  obtain ⟨c0, c1, c2, c3, c4, c5, c6, c7, c8, c9, c10, c11, c12, _, _⟩ := HW.out.cOb
  have lp := ob_lt HW.out.at_
  go_wp2_with fail
  refine (HTk.out _ (HW.out.below (Chg.below (by repeat (first | with_reducible exact Chg.refl _ _ | with_reducible exact chg0 | with_reducible refine Chg.drewN ?_ _ | with_reducible refine Chg.drew ?_ | with_reducible refine Chg.alloc ?_ _ | with_reducible refine Chg.setCell ?_ _ _ (by first | (simp; done) | omega | (simp; omega)) | with_reducible refine Chg.setBlock ?_ _ _ (by first | (simp; done) | omega | (simp; omega)) | exact Chg.refl _ _))))).mono ?_
  rintro e w2 ⟨rfl, h2, m2⟩
  have hch : Chg (fun j => j = r.c) W w2 := Chg.trans (S' := fun j => j = r.c) (by repeat (first | with_reducible exact Chg.refl _ _ | with_reducible exact chg0 | with_reducible refine Chg.drewN ?_ _ | with_reducible refine Chg.drew ?_ | with_reducible refine Chg.alloc ?_ _ | with_reducible refine Chg.setCell ?_ _ _ (by first | (simp; done) | omega | (simp; omega)) | with_reducible refine Chg.setBlock ?_ _ _ (by first | (simp; done) | omega | (simp; omega)) | exact Chg.refl _ _)) m2 (fun _ _ h => h)
  obtain ⟨hN1, hM1⟩ := HW.out.cpuL h2 hch
  have nc1 : ¬ w.heap.size = r.c := fun e => by have := HLT.out r.c (.inl (.inr (.inr (.inl rfl)))); omega
  have nc2 : ¬ w.heap.size + 1 = r.c := fun e => by have := HLT.out r.c (.inl (.inr (.inr (.inl rfl)))); omega
  have hvc : ∀ k, vA.ownBlock = some k → ¬ k = r.c := fun k hk => (HW.out.apart k hk).2.2.1
  have HN := Lib.hid hN1
  have HM := Lib.hid ((Moves.none (F := rFp r F) (Chg.of_below BW.out)).trans hM1)
  have HO := Lib.hid (And.intro (hch.ob O12.out.1 nc1) (hch.ob O12.out.2 nc2))
  have HL2 := Lib.hid (HLW.out.chg hch hvc)
  have hsz : w.heap.size + 2 ≤ w2.heap.size := by have := ob_lt HO.out.2; omega
  clear h2 m2 hch hN1 hM1 nc1 nc2 hvc c0 c1 c2 c3 c4 c5 c6 c7 c8 c9 c10 c11 c12 lp HW BW O12 HLW HTk
  obtain ⟨f0, f1, f2, ff⟩ := ob_cells3 HO.out.1
  have lf := ob_lt HO.out.1
  obtain ⟨e0, e1, e2, ef⟩ := ob_cells3 HO.out.2
  have le := ob_lt HO.out.2
  by_cases q1 : t2 = 1
  · have q1' : (t2 == 1) = true := by simpa using q1
    have hS := HS.out
    rw [if_pos q1] at hS
    have HS1 := Lib.hid hS
    clear hS q1
    go_wp2_with fail
    refine (HAs.out _ t1 (HN.out.below (Chg.below (by repeat (first | with_reducible exact Chg.refl _ _ | with_reducible exact chg0 | with_reducible refine Chg.drewN ?_ _ | with_reducible refine Chg.drew ?_ | with_reducible refine Chg.alloc ?_ _ | with_reducible refine Chg.setCell ?_ _ _ (by first | (simp; done) | omega | (simp; omega)) | with_reducible refine Chg.setBlock ?_ _ _ (by first | (simp; done) | omega | (simp; omega)) | exact Chg.refl _ _))))).mono ?_
    rintro e w4 ⟨v4, rfl, ho4, hl4, hb4⟩
    have hb24 := below_trans (Chg.below (w := w2) (by repeat (first | with_reducible exact Chg.refl _ _ | with_reducible exact chg0 | with_reducible refine Chg.drewN ?_ _ | with_reducible refine Chg.drew ?_ | with_reducible refine Chg.alloc ?_ _ | with_reducible refine Chg.setCell ?_ _ _ (by first | (simp; done) | omega | (simp; omega)) | with_reducible refine Chg.setBlock ?_ _ _ (by first | (simp; done) | omega | (simp; omega)) | exact Chg.refl _ _))) hb4
    have HN4 := Lib.hid (HN.out.below hb24)
    have HM4 := Lib.hid (HM.out.trans (Moves.none (F := rFp r F) (Chg.of_below hb24)))
    have HO4 := Lib.hid ho4
    have HL4 := Lib.hid (HL2.out.chg (S := fun _ => False) (Chg.of_below hb24) (fun _ _ h => h))
    have hsz2 : ∀ j, v4.ownBlock = some j → w.heap.size ≤ j := fun j hj => by have := hl4 j hj; omega
    have HZ := Lib.hid hsz2
    clear hb4 hb24 hl4 ho4 hsz2
    go_wp2_with fail
    go_ret
    rw [HS1.out]
    exact ⟨_, vA, rfl, HN4.out.below (Chg.below (by repeat (first | with_reducible exact Chg.refl _ _ | with_reducible exact chg0 | with_reducible refine Chg.drewN ?_ _ | with_reducible refine Chg.drew ?_ | with_reducible refine Chg.alloc ?_ _ | with_reducible refine Chg.setCell ?_ _ _ (by first | (simp; done) | omega | (simp; omega)) | with_reducible refine Chg.setBlock ?_ _ _ (by first | (simp; done) | omega | (simp; omega)) | exact Chg.refl _ _))), HM4.out.trans (Moves.none (by repeat (first | with_reducible exact Chg.refl _ _ | with_reducible exact chg0 | with_reducible refine Chg.drewN ?_ _ | with_reducible refine Chg.drew ?_ | with_reducible refine Chg.alloc ?_ _ | with_reducible refine Chg.setCell ?_ _ _ (by first | (simp; done) | omega | (simp; omega)) | with_reducible refine Chg.setBlock ?_ _ _ (by first | (simp; done) | omega | (simp; omega)) | exact Chg.refl _ _))), HO4.out.chg (S := fun _ => False) (by repeat (first | with_reducible exact Chg.refl _ _ | with_reducible exact chg0 | with_reducible refine Chg.drewN ?_ _ | with_reducible refine Chg.drew ?_ | with_reducible refine Chg.alloc ?_ _ | with_reducible refine Chg.setCell ?_ _ _ (by first | (simp; done) | omega | (simp; omega)) | with_reducible refine Chg.setBlock ?_ _ _ (by first | (simp; done) | omega | (simp; omega)) | exact Chg.refl _ _)) (fun _ _ h => h), HZ.out, ⟨LA, HL4.out.chg (S := fun _ => False) (by repeat (first | with_reducible exact Chg.refl _ _ | with_reducible exact chg0 | with_reducible refine Chg.drewN ?_ _ | with_reducible refine Chg.drew ?_ | with_reducible refine Chg.alloc ?_ _ | with_reducible refine Chg.setCell ?_ _ _ (by first | (simp; done) | omega | (simp; omega)) | with_reducible refine Chg.setBlock ?_ _ _ (by first | (simp; done) | omega | (simp; omega)) | exact Chg.refl _ _)) (fun _ _ h => h), Nat.le_succ_of_le HLA.out.1, HLA.out.2⟩, fun j hj => .inl hj⟩
  have q1' : (t2 == 1) = false := by simpa using q1
  by_cases q2 : t2 = 2
  · have q2' : (t2 == 2) = true := by simpa using q2
    obtain ⟨c0, c1, c2, c3, c4, c5, c6, c7, c8, c9, c10, c11, c12, c13, _⟩ := HN.out.cOb
    have lp := ob_lt HN.out.at_
    obtain ⟨A, hA⟩ : ∃ A, A = n.asked n.cpu.op.block := ⟨_, rfl⟩
    have hS := HS.out
    rw [if_neg q1] at hS
    have hdm : decide (n.cpu.op.block ∈ LA) = A := by rw [hA]; exact (HLA.out.2 _).symm
    have hhas : ∀ V, Chg (fun _ => False) w2 V → Calls Tryz.prog 56 #[vA, .int .i64 n.cpu.op.block] V fun e w' => e = .returned (.bool A) ∧ w' = V := fun V hV => by
      have := HHas.out V LA (HL2.out.chg hV (fun _ _ h => h))
      rw [hdm] at this
      exact this
    have HHS := Lib.hid hhas
    rw [← hA] at hS
    have HS1 := Lib.hid hS
    have HA := Lib.hid hA
    have Q2 := Lib.hid q2
    clear hS q1 q2 hdm hhas hA
    go_upto_region 5 with fail
    go_cut [36] (fun s36 wx => s36 = .bool (!A) ∧ ∃ nn, wx = w2.drewN nn)
    case first =>
      go_quiet ((go_at_call 56; exact Calls.quiet_of_same (HHS.out _ (by repeat (first | with_reducible exact Chg.refl _ _ | with_reducible exact chg0 | with_reducible refine Chg.drewN ?_ _ | with_reducible refine Chg.drew ?_ | with_reducible refine Chg.alloc ?_ _ | with_reducible refine Chg.setCell ?_ _ _ (by first | (simp; done) | omega | (simp; omega)) | with_reducible refine Chg.setBlock ?_ _ _ (by first | (simp; done) | omega | (simp; omega)) | exact Chg.refl _ _)))))
      all_goals (go_wp2_with fail)
      all_goals go_meet
      all_goals exact ⟨rfl, _, rfl⟩
    case rest =>
    obtain ⟨rfl, nn, rfl⟩ := hcut
    have bV : Below w2.heap.size w2 (w2.drewN nn) := Chg.below (by repeat (first | with_reducible exact Chg.refl _ _ | with_reducible exact chg0 | with_reducible refine Chg.drewN ?_ _ | with_reducible refine Chg.drew ?_ | with_reducible refine Chg.alloc ?_ _ | with_reducible refine Chg.setCell ?_ _ _ (by first | (simp; done) | omega | (simp; omega)) | with_reducible refine Chg.setBlock ?_ _ _ (by first | (simp; done) | omega | (simp; omega)) | exact Chg.refl _ _))
    obtain ⟨V, hV⟩ : ∃ V, V = w2.drewN nn := ⟨_, rfl⟩
    rw [← hV] at bV ⊢
    have szV := Lib.hid (show V.heap.size = w2.heap.size from by rw [hV]; rfl)
    have HN3 := Lib.hid (HN.out.below bV)
    have HM3 := Lib.hid (HM.out.trans (Moves.none (F := rFp r F) (Chg.of_below bV)))
    have HL3 := Lib.hid (HL2.out.chg (S := fun _ => False) (Chg.of_below bV) (fun _ _ h => h))
    have HO3 := Lib.hid (ob_step bV HO.out.2)
    clear hV bV HN HM HL2 HO f0 f1 f2 ff lf e0 e1 e2 ef le c0 c1 c2 c3 c4 c5 c6 c7 c8 c9 c10 c11 c12 c13 lp HHS
    obtain ⟨e0, e1, e2, ef⟩ := ob_cells3 HO3.out
    have le := ob_lt HO3.out
    obtain ⟨c0, c1, c2, c3, c4, c5, c6, c7, c8, c9, c10, c11, c12, c13, _⟩ := HN3.out.cOb
    have lp := ob_lt HN3.out.at_
    cases A
    · have hLl : LA.length ≤ 900 := Nat.le_trans HLA.out.1 HK.out
      have f13 : ∀ i, V.frozen? ⟨r.p, i, none⟩ = false := frozen_ob HN3.out.at_
      obtain ⟨A0, cap0, ev, _⟩ := sliceInts HL3.out.slice
      subst ev
      obtain ⟨b0, hb0⟩ : ∃ b0, b0 = n.cpu.op.block := ⟨_, rfl⟩
      rw [← hb0] at e0
      have HB0 := Lib.hid hb0
      clear hb0
      go_upto_region 6 with fail
      go_cut [] (fun wx => ∃ v', ob wx r.p = some (.cells (rCells n.c n.id r v' vT) 112 (0, 0)) ∧ OwnSl wx 3 1 v' (ints (LA ++ [b0])) ∧ (∀ j, v'.ownBlock = some j → V.heap.size ≤ j) ∧ Chg (fun j => j = r.p) V wx)
      case first =>
        go_region_law (first
          | (refine step_append_sl (v := .slice (some ⟨V.heap.size, 0, none⟩) 0 0) (xs := []) (ys := ints LA) rfl _ _ rfl tyInts rfl rfl (OwnSl.made (c := #[]) (e := 3) (rows := []) (b := V.heap.size) (by simp [go_sem]) RowsOk.nil rfl (by decide)) (HL3.out.slice.below (Chg.below (by repeat (first | with_reducible exact Chg.refl _ _ | with_reducible exact chg0 | with_reducible refine Chg.drewN ?_ _ | with_reducible refine Chg.drew ?_ | with_reducible refine Chg.alloc ?_ _ | with_reducible refine Chg.setCell ?_ _ _ (by first | (simp; done) | omega | (simp; omega)) | with_reducible refine Chg.setBlock ?_ _ _ (by first | (simp; done) | omega | (simp; omega)) | exact Chg.refl _ _)))) (ints_ok LA) (by simp; omega) ?_; intro v5 w5 ho5 hc5 hloc5; have hw5 : Below V.heap.size V w5 := below_chg (S := fun j => V.heap.size ≤ j) (Chg.below (w := V) (by repeat (first | with_reducible exact Chg.refl _ _ | with_reducible exact chg0 | with_reducible refine Chg.drewN ?_ _ | with_reducible refine Chg.drew ?_ | with_reducible refine Chg.alloc ?_ _ | with_reducible refine Chg.setCell ?_ _ _ (by first | (simp; done) | omega | (simp; omega)) | with_reducible refine Chg.setBlock ?_ _ _ (by first | (simp; done) | omega | (simp; omega)) | exact Chg.refl _ _))) (hc5.mono (fun j _ e => by simp [Value.ownBlock] at e; omega)) (fun j hj e => by omega); have e0' : w5.cell? ⟨w.heap.size + 1, 0, none⟩ = some (.int .i64 b0) := (Chg.of_below (S := fun _ => False) hw5).cell e0 (fun h => h); have c13' : w5.cell? ⟨r.p, 13, none⟩ = some (.slice A0 LA.length cap0) := (Chg.of_below (S := fun _ => False) hw5).cell c13 (fun h => h); have lo5 : ∀ j, v5.ownBlock = some j → V.heap.size ≤ j := fun j hj => fresh_of hloc5 (fun k hk => by simp [Value.ownBlock] at hk; omega) (by first | (simp; done) | (simp; omega)) hj; (try (have oX : ob w5 (V.heap.size + 1) = some (.cells #[.int .i64 b0] 3 (0, 0)) := hc5.ob (by first | (simp [go_sem]; done) | fail) (fun e => by first | (simp [Value.ownBlock] at e; done) | fail))))
          | (refine step_append_sl (v := .slice (some ⟨V.heap.size + 1, 0, none⟩) 0 0) (xs := []) (ys := ints LA) rfl _ _ rfl tyInts rfl rfl (OwnSl.made (c := #[]) (e := 3) (rows := []) (b := V.heap.size + 1) (by simp [go_sem]) RowsOk.nil rfl (by decide)) (HL3.out.slice.below (Chg.below (by repeat (first | with_reducible exact Chg.refl _ _ | with_reducible exact chg0 | with_reducible refine Chg.drewN ?_ _ | with_reducible refine Chg.drew ?_ | with_reducible refine Chg.alloc ?_ _ | with_reducible refine Chg.setCell ?_ _ _ (by first | (simp; done) | omega | (simp; omega)) | with_reducible refine Chg.setBlock ?_ _ _ (by first | (simp; done) | omega | (simp; omega)) | exact Chg.refl _ _)))) (ints_ok LA) (by simp; omega) ?_; intro v5 w5 ho5 hc5 hloc5; have hw5 : Below V.heap.size V w5 := below_chg (S := fun j => V.heap.size ≤ j) (Chg.below (w := V) (by repeat (first | with_reducible exact Chg.refl _ _ | with_reducible exact chg0 | with_reducible refine Chg.drewN ?_ _ | with_reducible refine Chg.drew ?_ | with_reducible refine Chg.alloc ?_ _ | with_reducible refine Chg.setCell ?_ _ _ (by first | (simp; done) | omega | (simp; omega)) | with_reducible refine Chg.setBlock ?_ _ _ (by first | (simp; done) | omega | (simp; omega)) | exact Chg.refl _ _))) (hc5.mono (fun j _ e => by simp [Value.ownBlock] at e; omega)) (fun j hj e => by omega); have e0' : w5.cell? ⟨w.heap.size + 1, 0, none⟩ = some (.int .i64 b0) := (Chg.of_below (S := fun _ => False) hw5).cell e0 (fun h => h); have c13' : w5.cell? ⟨r.p, 13, none⟩ = some (.slice A0 LA.length cap0) := (Chg.of_below (S := fun _ => False) hw5).cell c13 (fun h => h); have lo5 : ∀ j, v5.ownBlock = some j → V.heap.size ≤ j := fun j hj => fresh_of hloc5 (fun k hk => by simp [Value.ownBlock] at hk; omega) (by first | (simp; done) | (simp; omega)) hj; (try (have oX : ob w5 (V.heap.size) = some (.cells #[.int .i64 b0] 3 (0, 0)) := hc5.ob (by first | (simp [go_sem]; done) | fail) (fun e => by first | (simp [Value.ownBlock] at e; done) | fail))))
          | (refine step_append_sl (v := v5) (xs := ints LA) (ys := [[.int .i64 b0]]) rfl _ _ rfl tyInts rfl rfl (ho5.chg (S := fun _ => False) (by repeat (first | with_reducible exact Chg.refl _ _ | with_reducible exact chg0 | with_reducible refine Chg.drewN ?_ _ | with_reducible refine Chg.drew ?_ | with_reducible refine Chg.alloc ?_ _ | with_reducible refine Chg.setCell ?_ _ _ (by first | (simp; done) | omega | (simp; omega)) | with_reducible refine Chg.setBlock ?_ _ _ (by first | (simp; done) | omega | (simp; omega)) | exact Chg.refl _ _)) (fun _ _ h => h)) (OwnSl.made (e := 3) (c := #[.int .i64 b0]) (b := w5.heap.size) (by simp [go_sem]) (ints_ok [b0]) rfl (by simp)).slice (ints_ok [b0]) (by simp; omega) ?_; intro v6 w6 ho6 hc6 hloc6; have hw6 : Below V.heap.size V w6 := below_chg (S := fun j => V.heap.size ≤ j) (below_trans hw5 (Chg.below (w := w5) (by repeat (first | with_reducible exact Chg.refl _ _ | with_reducible exact chg0 | with_reducible refine Chg.drewN ?_ _ | with_reducible refine Chg.drew ?_ | with_reducible refine Chg.alloc ?_ _ | with_reducible refine Chg.setCell ?_ _ _ (by first | (simp; done) | omega | (simp; omega)) | with_reducible refine Chg.setBlock ?_ _ _ (by first | (simp; done) | omega | (simp; omega)) | exact Chg.refl _ _)))) (hc6.mono (fun j _ e => lo5 j e)) (fun j hj e => by omega); have hs56 := hw5.size; have lo6 : ∀ j, v6.ownBlock = some j → V.heap.size ≤ j := fun j hj => fresh_of hloc6 lo5 (by first | (simp; done) | (simp; omega) | omega) hj; have c13'' : w6.cell? ⟨r.p, 13, none⟩ = some (.slice A0 LA.length cap0) := (Chg.of_below (S := fun _ => False) hw6).cell c13 (fun h => h); have f13'' : w6.frozen? ⟨r.p, 13, none⟩ = false := ((Chg.of_below (S := fun _ => False) hw6).frozen lp (fun h => h)).trans (f13 13); have op6 := ob_step hw6 HN3.out.at_; have lp6 := ob_lt op6; obtain ⟨A6, n6, s6, ev6⟩ := ho6.shape; subst ev6)
          | (refine step_append_sl (v := v5) (xs := ints LA) (ys := [[.int .i64 b0]]) rfl _ _ rfl tyInts rfl rfl (ho5.chg (S := fun _ => False) (by repeat (first | with_reducible exact Chg.refl _ _ | with_reducible exact chg0 | with_reducible refine Chg.drewN ?_ _ | with_reducible refine Chg.drew ?_ | with_reducible refine Chg.alloc ?_ _ | with_reducible refine Chg.setCell ?_ _ _ (by first | (simp; done) | omega | (simp; omega)) | with_reducible refine Chg.setBlock ?_ _ _ (by first | (simp; done) | omega | (simp; omega)) | exact Chg.refl _ _)) (fun _ _ h => h)) (OwnSl.made (e := 3) (c := #[.int .i64 b0]) (b := V.heap.size + 1) (by first | exact oX | (simp [go_sem]; exact oX)) (ints_ok [b0]) rfl (by simp)).slice (ints_ok [b0]) (by simp; omega) ?_; intro v6 w6 ho6 hc6 hloc6; have hw6 : Below V.heap.size V w6 := below_chg (S := fun j => V.heap.size ≤ j) (below_trans hw5 (Chg.below (w := w5) (by repeat (first | with_reducible exact Chg.refl _ _ | with_reducible exact chg0 | with_reducible refine Chg.drewN ?_ _ | with_reducible refine Chg.drew ?_ | with_reducible refine Chg.alloc ?_ _ | with_reducible refine Chg.setCell ?_ _ _ (by first | (simp; done) | omega | (simp; omega)) | with_reducible refine Chg.setBlock ?_ _ _ (by first | (simp; done) | omega | (simp; omega)) | exact Chg.refl _ _)))) (hc6.mono (fun j _ e => lo5 j e)) (fun j hj e => by omega); have hs56 := hw5.size; have lo6 : ∀ j, v6.ownBlock = some j → V.heap.size ≤ j := fun j hj => fresh_of hloc6 lo5 (by first | (simp; done) | (simp; omega) | omega) hj; have c13'' : w6.cell? ⟨r.p, 13, none⟩ = some (.slice A0 LA.length cap0) := (Chg.of_below (S := fun _ => False) hw6).cell c13 (fun h => h); have f13'' : w6.frozen? ⟨r.p, 13, none⟩ = false := ((Chg.of_below (S := fun _ => False) hw6).frozen lp (fun h => h)).trans (f13 13); have op6 := ob_step hw6 HN3.out.at_; have lp6 := ob_lt op6; obtain ⟨A6, n6, s6, ev6⟩ := ho6.shape; subst ev6)
          | (refine step_append_sl (v := v5) (xs := ints LA) (ys := [[.int .i64 b0]]) rfl _ _ rfl tyInts rfl rfl (ho5.chg (S := fun _ => False) (by repeat (first | with_reducible exact Chg.refl _ _ | with_reducible exact chg0 | with_reducible refine Chg.drewN ?_ _ | with_reducible refine Chg.drew ?_ | with_reducible refine Chg.alloc ?_ _ | with_reducible refine Chg.setCell ?_ _ _ (by first | (simp; done) | omega | (simp; omega)) | with_reducible refine Chg.setBlock ?_ _ _ (by first | (simp; done) | omega | (simp; omega)) | exact Chg.refl _ _)) (fun _ _ h => h)) (OwnSl.made (e := 3) (c := #[.int .i64 b0]) (b := V.heap.size) (by first | exact oX | (simp [go_sem]; exact oX)) (ints_ok [b0]) rfl (by simp)).slice (ints_ok [b0]) (by simp; omega) ?_; intro v6 w6 ho6 hc6 hloc6; have hw6 : Below V.heap.size V w6 := below_chg (S := fun j => V.heap.size ≤ j) (below_trans hw5 (Chg.below (w := w5) (by repeat (first | with_reducible exact Chg.refl _ _ | with_reducible exact chg0 | with_reducible refine Chg.drewN ?_ _ | with_reducible refine Chg.drew ?_ | with_reducible refine Chg.alloc ?_ _ | with_reducible refine Chg.setCell ?_ _ _ (by first | (simp; done) | omega | (simp; omega)) | with_reducible refine Chg.setBlock ?_ _ _ (by first | (simp; done) | omega | (simp; omega)) | exact Chg.refl _ _)))) (hc6.mono (fun j _ e => lo5 j e)) (fun j hj e => by omega); have hs56 := hw5.size; have lo6 : ∀ j, v6.ownBlock = some j → V.heap.size ≤ j := fun j hj => fresh_of hloc6 lo5 (by first | (simp; done) | (simp; omega) | omega) hj; have c13'' : w6.cell? ⟨r.p, 13, none⟩ = some (.slice A0 LA.length cap0) := (Chg.of_below (S := fun _ => False) hw6).cell c13 (fun h => h); have f13'' : w6.frozen? ⟨r.p, 13, none⟩ = false := ((Chg.of_below (S := fun _ => False) hw6).frozen lp (fun h => h)).trans (f13 13); have op6 := ob_step hw6 HN3.out.at_; have lp6 := ob_lt op6; obtain ⟨A6, n6, s6, ev6⟩ := ho6.shape; subst ev6)
          | fail)
        all_goals (go_wp2_with fail)
        all_goals go_meet
        all_goals exact ⟨_, by simp only [rCells] at op6; simp [go_sem, op6, lp6, setAt, rCells], by rw [ints_append]; exact ho6.chg (S := fun j => j = r.p) (by (repeat (first | with_reducible exact Chg.refl _ _ | with_reducible refine Chg.drewN ?_ _ | with_reducible refine Chg.drew ?_ | with_reducible refine Chg.alloc ?_ _ | with_reducible refine Chg.setCell ?_ _ _ (fun _ => rfl)))) (fun j hj e => by have := lo6 j hj; omega), lo6, (Chg.of_below hw6).trans (S' := fun j => j = r.p) (by (repeat (first | with_reducible exact Chg.refl _ _ | with_reducible refine Chg.drewN ?_ _ | with_reducible refine Chg.drew ?_ | with_reducible refine Chg.alloc ?_ _ | with_reducible refine Chg.setCell ?_ _ _ (fun _ => rfl)))) (fun _ _ h => h)⟩
      case rest =>
      obtain ⟨v', hq1, hq2, hq3, hq4⟩ := hcut
      obtain ⟨hN5, hM5⟩ := HN3.out.askedL (b := b0) ⟨by rw [HB0.out]; exact HA.out.symm, hLl, HLA.out.2⟩ hq1 hq2 hq3 hq4
      have HN5 := Lib.hid hN5
      have HM5 := Lib.hid (HM3.out.trans hM5)
      have npx : ¬ w.heap.size + 1 = r.p := fun e => by have := HLT.out r.p (.inl (.inl rfl)); omega
      have hO5 := hq4.ob HO3.out npx
      have hS := HS1.out
      rw [if_pos ⟨Q2.out, rfl⟩, ← HB0.out] at hS
      have HS2 := Lib.hid hS
      have szc : w.heap.size ≤ wc.heap.size := by have h1 := hq4.size; have h2 := szV.out; omega
      rw [← HB0.out] at hO5
      have HQ2 := Lib.hid hq2
      have HQ3 := Lib.hid (show ∀ j, v'.ownBlock = some j → w.heap.size ≤ j from fun j hj => by have h1 := hq3 j hj; have h2 := szV.out; omega)
      have HAK := Lib.hid (show ∀ j, (if j = b0 then true else n.asked j) = decide (j ∈ LA ++ [b0]) from fun j => by
        rw [HLA.out.2 j]
        by_cases e : j = b0 <;> simp [e])
      clear hN5 hM5 hq1 hq2 hq3 hq4 hS c0 c1 c2 c3 c4 c5 c6 c7 c8 c9 c10 c11 c12 c13 lp e0 e1 e2 ef le f13 HN3 HM3 HL3 HO3
      obtain ⟨c0, c1, c2, c3, c4, c5, c6, c7, c8, c9, c10, c11, c12, _, _⟩ := HN5.out.cOb
      have lp := ob_lt HN5.out.at_
      obtain ⟨e0, e1, e2, ef⟩ := ob_cells3 hO5
      have le := ob_lt hO5
      clear hO5
      go_upto_region 7 with fail
      go_still_tail 12, (by kernel_rfl)
      go_wp2_with fail
      all_goals
        go_ret
        rw [HS2.out]
        exact ⟨_, rfl, v', HN5.out.below (Chg.below (by repeat (first | with_reducible exact Chg.refl _ _ | with_reducible exact chg0 | with_reducible refine Chg.drewN ?_ _ | with_reducible refine Chg.drew ?_ | with_reducible refine Chg.alloc ?_ _ | with_reducible refine Chg.setCell ?_ _ _ (by first | (simp; done) | omega | (simp; omega)) | with_reducible refine Chg.setBlock ?_ _ _ (by first | (simp; done) | omega | (simp; omega)) | exact Chg.refl _ _))), HM5.out.trans (Moves.none (by repeat (first | with_reducible exact Chg.refl _ _ | with_reducible exact chg0 | with_reducible refine Chg.drewN ?_ _ | with_reducible refine Chg.drew ?_ | with_reducible refine Chg.alloc ?_ _ | with_reducible refine Chg.setCell ?_ _ _ (by first | (simp; done) | omega | (simp; omega)) | with_reducible refine Chg.setBlock ?_ _ _ (by first | (simp; done) | omega | (simp; omega)) | exact Chg.refl _ _))), OwnSl.made (e := 44) (b := wc.heap.size) (by first | exact ob_last _ _ _ | exact ob_last1 _ _ | exact ob_last2 _ _ | exact ob_last3 _ _ _ | exact ob_last4 _ _ | exact ob_last5 _ _ _ _ | exact ob_alloc_at _ _) (letters_ok [n.home 3 b0 0]) rfl (by simp), (fun j hj => by simp [Value.ownBlock] at hj; omega), ⟨LA ++ [b0], HQ2.out.chg (S := fun _ => False) (by repeat (first | with_reducible exact Chg.refl _ _ | with_reducible exact chg0 | with_reducible refine Chg.drewN ?_ _ | with_reducible refine Chg.drew ?_ | with_reducible refine Chg.alloc ?_ _ | with_reducible refine Chg.setCell ?_ _ _ (by first | (simp; done) | omega | (simp; omega)) | with_reducible refine Chg.setBlock ?_ _ _ (by first | (simp; done) | omega | (simp; omega)) | exact Chg.refl _ _)) (fun _ _ h => h), by have := HLA.out.1; simp; omega, HAK.out⟩, fun j hj => .inr (HQ3.out j hj)⟩
    · have hS := HS1.out
      rw [if_neg (by simp)] at hS
      have HS2 := Lib.hid hS
      clear hS
      go_wp2_with fail
      go_ret
      rw [HS2.out]
      first
        | exact ⟨_, rfl, vA, HN3.out.below (Chg.below (by repeat (first | with_reducible exact Chg.refl _ _ | with_reducible exact chg0 | with_reducible refine Chg.drewN ?_ _ | with_reducible refine Chg.drew ?_ | with_reducible refine Chg.alloc ?_ _ | with_reducible refine Chg.setCell ?_ _ _ (by first | (simp; done) | omega | (simp; omega)) | with_reducible refine Chg.setBlock ?_ _ _ (by first | (simp; done) | omega | (simp; omega)) | exact Chg.refl _ _))), HM3.out.trans (Moves.none (by repeat (first | with_reducible exact Chg.refl _ _ | with_reducible exact chg0 | with_reducible refine Chg.drewN ?_ _ | with_reducible refine Chg.drew ?_ | with_reducible refine Chg.alloc ?_ _ | with_reducible refine Chg.setCell ?_ _ _ (by first | (simp; done) | omega | (simp; omega)) | with_reducible refine Chg.setBlock ?_ _ _ (by first | (simp; done) | omega | (simp; omega)) | exact Chg.refl _ _))), OwnSl.nil, (fun j hj => by cases hj), ⟨LA, HL3.out.chg (S := fun _ => False) (by repeat (first | with_reducible exact Chg.refl _ _ | with_reducible exact chg0 | with_reducible refine Chg.drewN ?_ _ | with_reducible refine Chg.drew ?_ | with_reducible refine Chg.alloc ?_ _ | with_reducible refine Chg.setCell ?_ _ _ (by first | (simp; done) | omega | (simp; omega)) | with_reducible refine Chg.setBlock ?_ _ _ (by first | (simp; done) | omega | (simp; omega)) | exact Chg.refl _ _)) (fun _ _ h => h), Nat.le_succ_of_le HLA.out.1, HLA.out.2⟩, fun j hj => .inl hj⟩
        | exact ⟨_, vA, rfl, HN3.out.below (Chg.below (by repeat (first | with_reducible exact Chg.refl _ _ | with_reducible exact chg0 | with_reducible refine Chg.drewN ?_ _ | with_reducible refine Chg.drew ?_ | with_reducible refine Chg.alloc ?_ _ | with_reducible refine Chg.setCell ?_ _ _ (by first | (simp; done) | omega | (simp; omega)) | with_reducible refine Chg.setBlock ?_ _ _ (by first | (simp; done) | omega | (simp; omega)) | exact Chg.refl _ _))), HM3.out.trans (Moves.none (by repeat (first | with_reducible exact Chg.refl _ _ | with_reducible exact chg0 | with_reducible refine Chg.drewN ?_ _ | with_reducible refine Chg.drew ?_ | with_reducible refine Chg.alloc ?_ _ | with_reducible refine Chg.setCell ?_ _ _ (by first | (simp; done) | omega | (simp; omega)) | with_reducible refine Chg.setBlock ?_ _ _ (by first | (simp; done) | omega | (simp; omega)) | exact Chg.refl _ _))), OwnSl.nil, (fun j hj => by cases hj), ⟨LA, HL3.out.chg (S := fun _ => False) (by repeat (first | with_reducible exact Chg.refl _ _ | with_reducible exact chg0 | with_reducible refine Chg.drewN ?_ _ | with_reducible refine Chg.drew ?_ | with_reducible refine Chg.alloc ?_ _ | with_reducible refine Chg.setCell ?_ _ _ (by first | (simp; done) | omega | (simp; omega)) | with_reducible refine Chg.setBlock ?_ _ _ (by first | (simp; done) | omega | (simp; omega)) | exact Chg.refl _ _)) (fun _ _ h => h), Nat.le_succ_of_le HLA.out.1, HLA.out.2⟩, fun j hj => .inl hj⟩
  · have q2' : (t2 == 2) = false := by simpa using q2
    have hS := HS.out
    rw [if_neg q1, if_neg (fun h => q2 h.1)] at hS
    have HS1 := Lib.hid hS
    clear hS q1 q2
    go_upto_region 5 with fail
    go_cut [36] (fun s36 wx => s36 = .bool false ∧ ∃ nn, wx = w2.drewN nn)
    case first =>
      go_quiet (fail)
      all_goals (go_wp2_with fail)
      all_goals go_meet
      all_goals exact ⟨rfl, _, rfl⟩
    case rest =>
    obtain ⟨rfl, nn, rfl⟩ := hcut
    go_wp2_with fail
    go_ret
    rw [HS1.out]
    exact ⟨_, vA, rfl, HN.out.below (Chg.below (by repeat (first | with_reducible exact Chg.refl _ _ | with_reducible exact chg0 | with_reducible refine Chg.drewN ?_ _ | with_reducible refine Chg.drew ?_ | with_reducible refine Chg.alloc ?_ _ | with_reducible refine Chg.setCell ?_ _ _ (by first | (simp; done) | omega | (simp; omega)) | with_reducible refine Chg.setBlock ?_ _ _ (by first | (simp; done) | omega | (simp; omega)) | exact Chg.refl _ _))), HM.out.trans (Moves.none (by repeat (first | with_reducible exact Chg.refl _ _ | with_reducible exact chg0 | with_reducible refine Chg.drewN ?_ _ | with_reducible refine Chg.drew ?_ | with_reducible refine Chg.alloc ?_ _ | with_reducible refine Chg.setCell ?_ _ _ (by first | (simp; done) | omega | (simp; omega)) | with_reducible refine Chg.setBlock ?_ _ _ (by first | (simp; done) | omega | (simp; omega)) | exact Chg.refl _ _))), OwnSl.nil, (fun j hj => by cases hj), ⟨LA, HL2.out.chg (S := fun _ => False) (by repeat (first | with_reducible exact Chg.refl _ _ | with_reducible exact chg0 | with_reducible refine Chg.drewN ?_ _ | with_reducible refine Chg.drew ?_ | with_reducible refine Chg.alloc ?_ _ | with_reducible refine Chg.setCell ?_ _ _ (by first | (simp; done) | omega | (simp; omega)) | with_reducible refine Chg.setBlock ?_ _ _ (by first | (simp; done) | omega | (simp; omega)) | exact Chg.refl _ _)) (fun _ _ h => h), Nat.le_succ_of_le HLA.out.1, HLA.out.2⟩, fun j hj => .inl hj⟩
end
end Go.Proofs.YtchlioikkhnidaaGreat
