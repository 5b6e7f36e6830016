/-
  The program's node: a tick.
-/
import Derived.Test.YtchlioikkhnidaaGreatMN8
import Derived.Test.YtchlioikkhnidaaGreatMN5
import Derived.Test.YtchlioikkhnidaaGreatMK
import Derived.Test.YtchlioikkhnidaaGreatMA
set_option linter.unusedVariables false
set_option linter.unusedSimpArgs false
namespace Go.Proofs.YtchlioikkhnidaaGreat
open Go.RowKit Go.Sort Go.ChangeShapes Go.WideShapes Go.ChangeAt
open Go.ChangeMaps (setBlock)
set_option linter.unusedVariables false
set_option linter.unusedSimpArgs false
section
variable {w w' w'' : World} {a : NAddr} {q : Nat} {n n' : Node} {L L' : List Letter} {D D' : List Done} {F F' FC : Nat → Prop} {v1 v2 : Value}
theorem NodeIn.askedPut {W Wf : World} {o2 : Obj} {f2 : Int → Option Value} {g2 : Int → Bool} (h : NO w a n FC q v1 v2 L D) (hB : Chg (fun _ => False) (setBlock W a.am o2) Wf) (h2 : MapObj o2 f2) (i2 : BoolMap g2 f2) (hA : Chg (fun _ => False) w W) :
    NO Wf a { n with asked := g2 } FC q v1 v2 L D ∧ Moves w Wf (noFp a FC q v1 v2) (noFp a FC q v1 v2) := by
  have hW := h.below hA.below
  have t2 := hW.node.lt a.am (.inl (by simp [NAddr.list]))
  obtain ⟨hn2, m2⟩ := hW.node.askedL (w' := setBlock W a.am o2) (ob_setBlock_lt _ _ _ t2) h2 i2 ((Chg.refl _ _).setBlock _ _ fun _ => rfl)
  obtain ⟨h3, m3⟩ := hW.lift hn2 m2
  exact ⟨h3.below hB.below, (Moves.none hA).trans (m3.trans (Moves.none hB))⟩

theorem NO.askedB {W Wf w4 : World} {o2 : Obj} {f2 : Int → Option Value} {g2 : Int → Bool} (hb : Below Wf.heap.size Wf w4) (h : NO w a n FC q v1 v2 L D) (hB : Chg (fun _ => False) (setBlock W a.am o2) Wf) (h2 : MapObj o2 f2) (i2 : BoolMap g2 f2) (hA : Chg (fun _ => False) w W) :
    NO w4 a { n with asked := g2 } FC q v1 v2 L D ∧ Moves w w4 (noFp a FC q v1 v2) (noFp a FC q v1 v2) :=
  have g := NodeIn.askedPut h hB h2 i2 hA
  ⟨g.1.below hb, g.2.trans (Moves.none (Chg.of_below hb))⟩

set_option maxHeartbeats 8000000 in
set_option maxRecDepth 20000 in
theorem NodeTick_calls (d : Draws) (h : NodeIn w a n FC) :
    Calls Tryz.prog 20 #[.pointer (some ⟨a.p, 0, none⟩), d.val] w fun e w' =>
      ∃ FC' v1 v2, e = .returned (.agg #[v1, v2]) ∧ Sent w w' a (n.tick d).1 FC FC' v1 v2 (n.tick d).2 [] := by
  have H := Lib.hid h
  have HF := Lib.hid h.lt
  have hset : n.tick d = if n.cpu.tick.2 = 1 then ({ n with cpu := n.cpu.tick.1 }, n.ask n.cpu.op d) else if n.cpu.tick.2 = 2 ∧ n.asked n.cpu.op.block = false then ({ n with cpu := n.cpu.tick.1, asked := fun j => if j = n.cpu.op.block then true else n.asked j }, [n.home 3 n.cpu.op.block 0]) else ({ n with cpu := n.cpu.tick.1 }, []) := rfl
  have HS := Lib.hid hset
  have hsane : Node.Sane { n with cpu := n.cpu.tick.1 } := by
    have e : n.cpu.tick.1.wait = n.cpu.wait ∧ n.cpu.tick.1.tries = n.cpu.tries ∧ n.cpu.tick.1.busy = n.cpu.busy ∧ n.cpu.tick.1.op = n.cpu.op := by unfold Proc.tick; split <;> simp
    exact ⟨h.sane.c, h.sane.id, by rw [show (Node.cpu { n with cpu := n.cpu.tick.1 }) = n.cpu.tick.1 from rfl, e.1]; exact h.sane.wait, by rw [show (Node.cpu { n with cpu := n.cpu.tick.1 }) = n.cpu.tick.1 from rfl, e.2.1]; exact h.sane.tries, by rw [show (Node.cpu { n with cpu := n.cpu.tick.1 }) = n.cpu.tick.1 from rfl, e.2.2.1, e.2.2.2]; exact h.sane.block⟩
  have HSa := Lib.hid hsane
  clear h hset hsane
  simp only [Draws.val, Draws.cells]
  go_enter Tryz.func20, Tryz.ntmps20
  go_upto_region 2 with fail
  obtain ⟨W, hW⟩ : ∃ W, W = (((w.alloc (Obj.cells #[Value.int IntKind.i64 d.d0, Value.int IntKind.i64 d.d1, Value.int IntKind.i64 d.d2] 39)).alloc (Obj.cells #[Value.slice none 0 0, Value.slice none 0 0] 35)).alloc (Obj.cells #[Value.slice none 0 0, Value.slice none 0 0] 35)) := ⟨_, rfl⟩
  rw [← hW]
  have bW : Below w.heap.size w W := by rw [hW]; exact Chg.below (by repeat (first | with_reducible exact Chg.refl _ _ | with_reducible exact chg0 | with_reducible refine Chg.drewN ?_ _ | with_reducible refine Chg.drew ?_ | with_reducible refine Chg.alloc ?_ _ | with_reducible refine Chg.setCell ?_ _ _ (by first | (simp; done) | omega | (simp; omega)) | with_reducible refine Chg.setBlock ?_ _ _ (by first | (simp; done) | omega | (simp; omega)) | exact Chg.refl _ _))
  have n1 : ob W w.heap.size = some (.cells #[Value.int IntKind.i64 d.d0, Value.int IntKind.i64 d.d1, Value.int IntKind.i64 d.d2] 39 (0, 0)) := by rw [hW]; simp [go_sem]
  have n2 : ob W (w.heap.size + 1) = some (.cells #[Value.slice none 0 0, Value.slice none 0 0] 35 (0, 0)) := by rw [hW]; simp [go_sem]
  have n3 : ob W (w.heap.size + 1 + 1) = some (.cells #[Value.slice none 0 0, Value.slice none 0 0] 35 (0, 0)) := by rw [hW]; simp [go_sem]
  clear hW
  obtain ⟨c0, c1, c2, c3, c4, c5, c6, c7, c8, c9, c10, c11, c12, c13, c14, cf, cl⟩ := (H.out.below bW).cells
  have BWW := Lib.hid bW
  clear bW
  go_wp2_with fail
  refine (Pending_calls ((H.out.below BWW.out).cpu.below (Chg.below (by repeat (first | with_reducible exact Chg.refl _ _ | with_reducible exact chg0 | with_reducible refine Chg.drewN ?_ _ | with_reducible refine Chg.drew ?_ | with_reducible refine Chg.alloc ?_ _ | with_reducible refine Chg.setCell ?_ _ _ (by first | (simp; done) | omega | (simp; omega)) | with_reducible refine Chg.setBlock ?_ _ _ (by first | (simp; done) | omega | (simp; omega)) | exact Chg.refl _ _))))).mono ?_
  rintro e w1 ⟨rfl, hb1⟩
  have hbb : Below W.heap.size W w1 := below_trans (Chg.below (by repeat (first | with_reducible exact Chg.refl _ _ | with_reducible exact chg0 | with_reducible refine Chg.drewN ?_ _ | with_reducible refine Chg.drew ?_ | with_reducible refine Chg.alloc ?_ _ | with_reducible refine Chg.setCell ?_ _ _ (by first | (simp; done) | omega | (simp; omega)) | with_reducible refine Chg.setBlock ?_ _ _ (by first | (simp; done) | omega | (simp; omega)) | exact Chg.refl _ _))) hb1
  have hw1 : Below w.heap.size w w1 := below_trans BWW.out hbb
  have o1 := ob_step hbb n1
  have o2 := ob_step hbb n2
  have o3 := ob_step hbb n3
  clear c0 c1 c2 c3 c4 c5 c6 c7 c8 c9 c10 c11 c12 c13 c14 cf cl n1 n2 n3 hbb
  have HN1 := Lib.hid (H.out.below hw1)
  have BW := Lib.hid hw1
  simp only [Op.val, Op.cells]
  obtain ⟨c0, c1, c2, c3, c4, c5, c6, c7, c8, c9, c10, c11, c12, c13, c14, cf, cl⟩ := HN1.out.cells
  clear hb1 hw1
  obtain ⟨oB, hoB⟩ : ∃ x, x = n.cpu.op.block := ⟨_, rfl⟩
  obtain ⟨oW, hoW⟩ : ∃ x, x = n.cpu.op.write := ⟨_, rfl⟩
  obtain ⟨oV, hoV⟩ : ∃ x, x = n.cpu.op.value := ⟨_, rfl⟩
  have hop : n.cpu.op = ⟨oB, oW, oV⟩ := by rw [hoB, hoW, hoV]
  rw [hop] at HS
  have l1 := ob_lt o1
  have l2 := ob_lt o2
  have l3 := ob_lt o3
  rw [← hoB, ← hoW, ← hoV]
  have HOP := Lib.hid hop
  clear hoB hoW hoV hop
  go_wp2_with fail
  refine (PTick_calls (HN1.out.cpu.below (Chg.below (by repeat (first | with_reducible exact Chg.refl _ _ | with_reducible exact chg0 | with_reducible refine Chg.drewN ?_ _ | with_reducible refine Chg.drew ?_ | with_reducible refine Chg.alloc ?_ _ | with_reducible refine Chg.setCell ?_ _ _ (by first | (simp; done) | omega | (simp; omega)) | with_reducible refine Chg.setBlock ?_ _ _ (by first | (simp; done) | omega | (simp; omega)) | exact Chg.refl _ _))))).mono ?_
  rintro e w2 ⟨rfl, hP2, hc2⟩
  have hnP : ∀ j, w.heap.size ≤ j → ¬ j = a.cp := fun j hj e => by
    have h1 := H.out.lt a.cp (.inl (by simp [NAddr.list]))
    omega
  have hob : ob w2 w1.heap.size = some (.cells #[Value.int IntKind.i64 oB, Value.bool oW, Value.int IntKind.i64 oV] 25 (0, 0)) := hc2.ob (by simp [go_sem]) (hnP _ BW.out.size)
  have p1 := hc2.ob (Chg.ob (S := fun _ => False) (by repeat (first | with_reducible exact Chg.refl _ _ | with_reducible exact chg0 | with_reducible refine Chg.drewN ?_ _ | with_reducible refine Chg.drew ?_ | with_reducible refine Chg.alloc ?_ _ | with_reducible refine Chg.setCell ?_ _ _ (by first | (simp; done) | omega | (simp; omega)) | with_reducible refine Chg.setBlock ?_ _ _ (by first | (simp; done) | omega | (simp; omega)) | exact Chg.refl _ _)) o1 (fun h => h)) (hnP _ (Nat.le_refl _))
  have p2 := hc2.ob (Chg.ob (S := fun _ => False) (by repeat (first | with_reducible exact Chg.refl _ _ | with_reducible exact chg0 | with_reducible refine Chg.drewN ?_ _ | with_reducible refine Chg.drew ?_ | with_reducible refine Chg.alloc ?_ _ | with_reducible refine Chg.setCell ?_ _ _ (by first | (simp; done) | omega | (simp; omega)) | with_reducible refine Chg.setBlock ?_ _ _ (by first | (simp; done) | omega | (simp; omega)) | exact Chg.refl _ _)) o2 (fun h => h)) (hnP _ (by omega))
  have p3 := hc2.ob (Chg.ob (S := fun _ => False) (by repeat (first | with_reducible exact Chg.refl _ _ | with_reducible exact chg0 | with_reducible refine Chg.drewN ?_ _ | with_reducible refine Chg.drew ?_ | with_reducible refine Chg.alloc ?_ _ | with_reducible refine Chg.setCell ?_ _ _ (by first | (simp; done) | omega | (simp; omega)) | with_reducible refine Chg.setBlock ?_ _ _ (by first | (simp; done) | omega | (simp; omega)) | exact Chg.refl _ _)) o3 (fun h => h)) (hnP _ (by omega))
  have hc12 : Chg (fun j => j = a.cp) w1 w2 := Chg.trans (S' := fun j => j = a.cp) (by repeat (first | with_reducible exact Chg.refl _ _ | with_reducible exact chg0 | with_reducible refine Chg.drewN ?_ _ | with_reducible refine Chg.drew ?_ | with_reducible refine Chg.alloc ?_ _ | with_reducible refine Chg.setCell ?_ _ _ (by first | (simp; done) | omega | (simp; omega)) | with_reducible refine Chg.setBlock ?_ _ _ (by first | (simp; done) | omega | (simp; omega)) | exact Chg.refl _ _)) hc2 (fun _ _ h => h)
  obtain ⟨hN2, mv2⟩ := HN1.out.cpuL hP2 hc12 HSa.out
  have HN2 := Lib.hid hN2
  have HM2 := Lib.hid ((Moves.none (Chg.of_below BW.out)).trans mv2)
  obtain ⟨F0, hR0, hF0⟩ := hN2.start (q := w.heap.size + 1 + 1) p3 (fun hf => by have := H.out.lt _ hf; omega)
  have HR0 := Lib.hid hR0
  have NF0 := Lib.hid (show ∀ j, w.heap.size ≤ j → j ≠ w.heap.size + 1 + 1 → ¬ F0 j from fun j hj hne hf => (hF0 j hf).elim (fun h => by have := HF.out _ h; omega) hne)
  have HM0 := Lib.hid (show Moves w w2 (nFp a FC) F0 from ⟨((Moves.none (Chg.of_below BW.out)).trans mv2).chg, fun j hj => (hF0 j hj).imp id (fun e => by omega)⟩)
  have OB := Lib.hid hob
  have P1 := Lib.hid p1
  have P2 := Lib.hid p2
  obtain ⟨wt, hwt⟩ : ∃ x, x = n.cpu.tick.2 := ⟨_, rfl⟩
  rw [← hwt] at HS ⊢
  obtain ⟨n1, hn1⟩ : ∃ x : Node, x = { n with cpu := n.cpu.tick.1 } := ⟨_, rfl⟩
  have hset : n.tick d = if wt = 1 then (n1, n1.ask ⟨oB, oW, oV⟩ d) else if wt = 2 ∧ n1.asked oB = false then ({ n1 with asked := fun j => if j = oB then true else n1.asked j }, [n1.home 3 oB 0]) else (n1, []) := by rw [HS.out, hn1]; rfl
  rw [← hn1] at HR0 HN2
  have HS := Lib.hid hset
  have lsz := BW.out.size
  have BK := Lib.hid (show w.heap.size ≤ w1.heap.size ∧ w1.heap.size ≠ w.heap.size + 1 + 1 from ⟨lsz, by omega⟩)
  clear c0 c1 c2 c3 c4 c5 c6 c7 c8 c9 c10 c11 c12 c13 c14 cf cl hc2 hP2 hob p1 p2 p3 hc12 hN2 mv2 hR0 hF0 hwt hset hn1 o1 o2 o3 l1 l2 l3
  obtain ⟨c0, c1, c2, c3, c4, c5, c6, c7, c8, c9, c10, c11, c12, c13, c14, cf, cl⟩ := HN2.out.cells
  obtain ⟨x0, x1, x2, xf⟩ := ob_cells3 OB.out
  obtain ⟨y0, y1, y2, yf⟩ := ob_cells3 P1.out
  have lob := ob_lt OB.out
  have lp1 := ob_lt P1.out
  have lp2 := ob_lt P2.out
  go_upto_block 0 with fail
  go_cut [] (fun wx => ∃ F', Run wx a (w.heap.size + 1 + 1) (n.tick d).1 (n.tick d).2 [] F' ∧ Moves w wx (nFp a FC) F' ∧ ob wx (w.heap.size + 1) = some (Obj.cells #[Value.slice none 0 0, Value.slice none 0 0] 35) ∧ ¬ F' (w.heap.size + 1))
  case first =>
    by_cases q1 : wt = 1
    · have HA := Lib.hid (fun (V : World) (F' : Nat → Prop) (hV : Run V a (w.heap.size + 1 + 1) n1 [] [] F') => ask_calls ⟨oB, oW, oV⟩ d hV (by simp))
      simp only [Op.val, Op.cells, Draws.val, Draws.cells] at HA
      subst q1
      go_wp2_with fail
      refine (HA.out _ _ (HR0.out.below (Chg.below (by repeat (first | with_reducible exact Chg.refl _ _ | with_reducible exact chg0 | with_reducible refine Chg.drewN ?_ _ | with_reducible refine Chg.drew ?_ | with_reducible refine Chg.alloc ?_ _ | with_reducible refine Chg.setCell ?_ _ _ (by first | (simp; done) | omega | (simp; omega)) | with_reducible refine Chg.setBlock ?_ _ _ (by first | (simp; done) | omega | (simp; omega)) | exact Chg.refl _ _))))).mono ?_
      rintro e w5 ⟨rfl, F5, hR5, m5⟩
      go_wp2_with fail
      go_meet
      rw [HS.out, if_pos (by trivial)]
      obtain ⟨g1, g2⟩ := m5.aside (Chg.ob (S := fun _ => False) (by repeat (first | with_reducible exact Chg.refl _ _ | with_reducible exact chg0 | with_reducible refine Chg.drewN ?_ _ | with_reducible refine Chg.drew ?_ | with_reducible refine Chg.alloc ?_ _ | with_reducible refine Chg.setCell ?_ _ _ (by first | (simp; done) | omega | (simp; omega)) | with_reducible refine Chg.setBlock ?_ _ _ (by first | (simp; done) | omega | (simp; omega)) | exact Chg.refl _ _)) P2.out (fun h => h)) (NF0.out _ (by omega) (by omega))
      exact ⟨F5, by simpa using hR5, HM0.out.trans ((Moves.none (by repeat (first | with_reducible exact Chg.refl _ _ | with_reducible exact chg0 | with_reducible refine Chg.drewN ?_ _ | with_reducible refine Chg.drew ?_ | with_reducible refine Chg.alloc ?_ _ | with_reducible refine Chg.setCell ?_ _ _ (by first | (simp; done) | omega | (simp; omega)) | with_reducible refine Chg.setBlock ?_ _ _ (by first | (simp; done) | omega | (simp; omega)) | exact Chg.refl _ _))).trans m5), g1, g2⟩
    · by_cases q2 : wt = 2
      · subst q2
        obtain ⟨FC0, u1, u2, hNO, rfl⟩ := HR0.out
        obtain ⟨oa, fa, hma, hmoa, hia⟩ := HN2.out.asked
        have HNO := Lib.hid hNO
        obtain ⟨ak, hak⟩ : ∃ x, x = n1.asked oB := ⟨_, rfl⟩
        have hlk : ∀ V : World, ob V a.am = some oa → (Instr.lookup 88 (.map (some a.am)) (.int .i64 oB) false).run Tryz.prog V = .ok (.bool ak) V := fun V hV => by
          rw [hmoa.lookup tyIO oB _ V hV, hia, hak]
        obtain ⟨oa', hoa', hup⟩ := hmoa.update tyIO oB (.bool true) a.am
        have HOA := Lib.hid hoa'
        have HIA := Lib.hid hia
        have HAK := Lib.hid hak
        have lta := ob_lt hma
        have nPA : ¬ a.p = a.am := fun e => by
          have hnd := HN2.out.nodup
          simp only [NAddr.list, List.nodup_cons, List.mem_cons, List.not_mem_nil, or_false, not_or] at hnd
          exact hnd.1.2.2.2.2.1 e
        have nKA : ¬ w1.heap.size = a.am := fun e => by
          have h1 := HF.out a.am (.inl (by simp [NAddr.list]))
          omega
        clear hoa' hia hak hNO hmoa
        cases ak
        · go_wp2_with fail
          go_quiet (fail)
          go_wp2_with fail
          go_big_region
          all_goals
            go_wp2_with fail
            refine (home_calls 3 oB 0 (NodeIn.askedPut HNO.out (by repeat (first | with_reducible exact Chg.refl _ _ | with_reducible exact chg0 | with_reducible refine Chg.drewN ?_ _ | with_reducible refine Chg.drew ?_ | with_reducible refine Chg.alloc ?_ _ | with_reducible refine Chg.setCell ?_ _ _ (by first | (simp; done) | omega | (simp; omega)) | with_reducible refine Chg.setBlock ?_ _ _ (by first | (simp; done) | omega | (simp; omega)) | exact Chg.refl _ _)) HOA.out (HIA.out.upd oB true) (by repeat (first | with_reducible exact Chg.refl _ _ | with_reducible exact chg0 | with_reducible refine Chg.drewN ?_ _ | with_reducible refine Chg.drew ?_ | with_reducible refine Chg.alloc ?_ _ | with_reducible refine Chg.setCell ?_ _ _ (by first | (simp; done) | omega | (simp; omega)) | with_reducible refine Chg.setBlock ?_ _ _ (by first | (simp; done) | omega | (simp; omega)) | exact Chg.refl _ _))).1.node).mono ?_
            rintro e w4 ⟨rfl, hb4⟩
            obtain ⟨hN4, hM4⟩ := NO.askedB hb4 HNO.out (by repeat (first | with_reducible exact Chg.refl _ _ | with_reducible exact chg0 | with_reducible refine Chg.drewN ?_ _ | with_reducible refine Chg.drew ?_ | with_reducible refine Chg.alloc ?_ _ | with_reducible refine Chg.setCell ?_ _ _ (by first | (simp; done) | omega | (simp; omega)) | with_reducible refine Chg.setBlock ?_ _ _ (by first | (simp; done) | omega | (simp; omega)) | exact Chg.refl _ _)) HOA.out (HIA.out.upd oB true) (by repeat (first | with_reducible exact Chg.refl _ _ | with_reducible exact chg0 | with_reducible refine Chg.drewN ?_ _ | with_reducible refine Chg.drew ?_ | with_reducible refine Chg.alloc ?_ _ | with_reducible refine Chg.setCell ?_ _ _ (by first | (simp; done) | omega | (simp; omega)) | with_reducible refine Chg.setBlock ?_ _ _ (by first | (simp; done) | omega | (simp; omega)) | exact Chg.refl _ _))
            have HN4 := Lib.hid hN4
            have HM4 := Lib.hid hM4
            clear hN4 hM4 hb4 c0 c1 c2 c3 c4 c5 c6 c7 c8 c9 c10 c11 c12 c13 c14 cf cl x0 x1 x2 xf y0 y1 y2 yf hlk hup
            go_wp2_with fail
            refine (NO.send (n1.home 3 oB 0) HN4.out (by simp)).mono ?_
            rintro e w5 ⟨rfl, v3, hR5, m5⟩
            go_wp2_with fail
            go_meet
            rw [HS.out, if_neg (by decide), if_pos (by first | exact ⟨trivial, HAK.out.symm⟩ | exact ⟨rfl, HAK.out.symm⟩)]
            obtain ⟨g1, g2⟩ := (HM4.out.trans m5).aside P2.out (NF0.out _ (by omega) (by omega))
            exact ⟨_, by simpa using hR5.run, HM0.out.trans (HM4.out.trans m5), g1, g2⟩
        · go_wp2_with fail
          go_quiet (fail)
          go_wp2_with fail
          go_meet
          rw [HS.out, if_neg (by decide), if_neg (fun h => by have := HAK.out; rw [h.2] at this; cases this)]
          exact ⟨_, (HNO.out.below (Chg.below (by repeat (first | with_reducible exact Chg.refl _ _ | with_reducible exact chg0 | with_reducible refine Chg.drewN ?_ _ | with_reducible refine Chg.drew ?_ | with_reducible refine Chg.alloc ?_ _ | with_reducible refine Chg.setCell ?_ _ _ (by first | (simp; done) | omega | (simp; omega)) | with_reducible refine Chg.setBlock ?_ _ _ (by first | (simp; done) | omega | (simp; omega)) | exact Chg.refl _ _)))).run, HM0.out.trans (Moves.none (by repeat (first | with_reducible exact Chg.refl _ _ | with_reducible exact chg0 | with_reducible refine Chg.drewN ?_ _ | with_reducible refine Chg.drew ?_ | with_reducible refine Chg.alloc ?_ _ | with_reducible refine Chg.setCell ?_ _ _ (by first | (simp; done) | omega | (simp; omega)) | with_reducible refine Chg.setBlock ?_ _ _ (by first | (simp; done) | omega | (simp; omega)) | exact Chg.refl _ _))), Chg.ob (S := fun _ => False) (by repeat (first | with_reducible exact Chg.refl _ _ | with_reducible exact chg0 | with_reducible refine Chg.drewN ?_ _ | with_reducible refine Chg.drew ?_ | with_reducible refine Chg.alloc ?_ _ | with_reducible refine Chg.setCell ?_ _ _ (by first | (simp; done) | omega | (simp; omega)) | with_reducible refine Chg.setBlock ?_ _ _ (by first | (simp; done) | omega | (simp; omega)) | exact Chg.refl _ _)) P2.out (fun h => h), NF0.out _ (by omega) (by omega)⟩
      · have q1' : (wt == 1) = false := by simpa using q1
        have q2' : (wt == 2) = false := by simpa using q2
        have Q1 := Lib.hid q1
        have Q2 := Lib.hid q2
        clear q1 q2
        go_wp2_with fail
        go_meet
        rw [HS.out, if_neg Q1.out, if_neg (fun h => Q2.out h.1)]
        exact ⟨F0, HR0.out.below (Chg.below (by repeat (first | with_reducible exact Chg.refl _ _ | with_reducible exact chg0 | with_reducible refine Chg.drewN ?_ _ | with_reducible refine Chg.drew ?_ | with_reducible refine Chg.alloc ?_ _ | with_reducible refine Chg.setCell ?_ _ _ (by first | (simp; done) | omega | (simp; omega)) | with_reducible refine Chg.setBlock ?_ _ _ (by first | (simp; done) | omega | (simp; omega)) | exact Chg.refl _ _))), HM0.out.trans (Moves.none (by repeat (first | with_reducible exact Chg.refl _ _ | with_reducible exact chg0 | with_reducible refine Chg.drewN ?_ _ | with_reducible refine Chg.drew ?_ | with_reducible refine Chg.alloc ?_ _ | with_reducible refine Chg.setCell ?_ _ _ (by first | (simp; done) | omega | (simp; omega)) | with_reducible refine Chg.setBlock ?_ _ _ (by first | (simp; done) | omega | (simp; omega)) | exact Chg.refl _ _))), Chg.ob (S := fun _ => False) (by repeat (first | with_reducible exact Chg.refl _ _ | with_reducible exact chg0 | with_reducible refine Chg.drewN ?_ _ | with_reducible refine Chg.drew ?_ | with_reducible refine Chg.alloc ?_ _ | with_reducible refine Chg.setCell ?_ _ _ (by first | (simp; done) | omega | (simp; omega)) | with_reducible refine Chg.setBlock ?_ _ _ (by first | (simp; done) | omega | (simp; omega)) | exact Chg.refl _ _)) P2.out (fun h => h), NF0.out _ (by omega) (by omega)⟩
  case rest =>
    obtain ⟨F9, hR9, hM9, hO9, hN9⟩ := hcut
    obtain ⟨FC9, A1, n1, z1, A2, n2, z2, hS9, hq9, hF9⟩ := hR9.ended H.out hM9 (by omega)
    clear c0 c1 c2 c3 c4 c5 c6 c7 c8 c9 c10 c11 c12 c13 c14 cf cl x0 x1 x2 xf y0 y1 y2 yf
    have k30 : wc.cell? ⟨w.heap.size + 1, 0, none⟩ = some (.slice none 0 0) := cell_ob hO9 0
    have k31 : wc.cell? ⟨w.heap.size + 1, 1, none⟩ = some (.slice none 0 0) := cell_ob hO9 1
    have k3f : wc.frozen? ⟨w.heap.size + 1, 0, none⟩ = false := frozen_ob hO9 0
    have k3g : wc.frozen? ⟨w.heap.size + 1, 1, none⟩ = false := frozen_ob hO9 1
    have k40 : wc.cell? ⟨w.heap.size + 1 + 1, 0, none⟩ = some (.slice A1 n1 z1) := cell_ob hq9 0
    have k41 : wc.cell? ⟨w.heap.size + 1 + 1, 1, none⟩ = some (.slice A2 n2 z2) := cell_ob hq9 1
    have HS9 := Lib.hid hS9
    have HF9 := Lib.hid hF9
    have HO9 := Lib.hid hO9
    have HN9 := Lib.hid hN9
    have lq9 := ob_lt hq9
    have lo9 := ob_lt hO9
    clear hS9 hF9 hq9 hR9 hM9 hO9 hN9
    go_wp2_with fail
    (try simp only [Exit.inBlock, Exit.then])
    refine bodyRet1 _ rfl rfl (ResIs.row Tryz.underlying35 rfl (by kernel_rfl) rfl (by first | (simp [go_sem, HO9.out, lo9, setAt]; done) | (simp [go_sem, HO9.out, lo9, setAt]; exact ⟨rfl, rfl, rfl⟩))) ?_
    refine ⟨FC9, _, _, rfl, ?_⟩
    exact HS9.out.put (S := fun j => j = w.heap.size + 1) (by (repeat (first | with_reducible exact Chg.refl _ _ | with_reducible refine Chg.drewN ?_ _ | with_reducible refine Chg.drew ?_ | with_reducible refine Chg.alloc ?_ _ | with_reducible refine Chg.setCell ?_ _ _ (fun _ => rfl)))) fun j e => ⟨by omega, fun hf => HN9.out (HF9.out _ (by subst e; exact hf))⟩
end
end Go.Proofs.YtchlioikkhnidaaGreat

/-
  The program's node: what is there.
-/
namespace Go.Proofs.YtchlioikkhnidaaGreat
open Go.RowKit Go.Sort Go.ChangeShapes Go.WideShapes Go.ChangeAt
open Go.ChangeMaps (setBlock)
set_option linter.unusedVariables false
set_option linter.unusedSimpArgs false
section
variable {w w' w'' : World} {a : NAddr} {q : Nat} {n n' : Node} {L L' : List Letter} {D D' : List Done} {F F' FC : Nat → Prop} {v1 v2 : Value}
theorem ob_last (w : World) (o : Obj) (n : Nat) : ob ((w.alloc o).drewN n) w.heap.size = some o := by rw [ob_drewN]; exact ob_alloc_at _ _
theorem ob_last1 (w : World) (o : Obj) : ob ((w.alloc o).drew) w.heap.size = some o := by rw [ob_drew]; exact ob_alloc_at _ _
theorem ob_last2 (w : World) (o : Obj) : ob (w.drew.alloc o) w.heap.size = some o := ob_alloc_at _ _
theorem ob_last3 (w : World) (o : Obj) (n : Nat) : ob ((w.drewN n).alloc o) w.heap.size = some o := ob_alloc_at _ _
theorem ob_last4 (w : World) (o : Obj) : ob ((w.drew.alloc o).drew) w.heap.size = some o := ob_alloc_at _ _
theorem ob_last5 (w : World) (o : Obj) (n m : Nat) : ob (((w.drewN n).alloc o).drewN m) w.heap.size = some o := ob_alloc_at _ _
theorem ob_cells6 {w : World} {b : Nat} {t : TypeId} {a0 a1 a2 a3 a4 a5 : Value} (h : ob w b = some (.cells #[a0, a1, a2, a3, a4, a5] t (0, 0))) : w.cell? ⟨b, 0, none⟩ = some a0 ∧ w.cell? ⟨b, 1, none⟩ = some a1 ∧ w.cell? ⟨b, 2, none⟩ = some a2 ∧ w.cell? ⟨b, 3, none⟩ = some a3 ∧ w.cell? ⟨b, 4, none⟩ = some a4 ∧ w.cell? ⟨b, 5, none⟩ = some a5 ∧ ∀ i, w.frozen? ⟨b, i, none⟩ = false :=
  ⟨cell_ob h 0, cell_ob h 1, cell_ob h 2, cell_ob h 3, cell_ob h 4, cell_ob h 5, fun i => frozen_ob h i⟩
/-- A slice of one's own that was made behind w0, through a write of a block of another kind. -/
def Own0 (w0 w : World) (e sz : Nat) (v : Value) (rows : List (List Value)) : Prop := OwnSl w e sz v rows ∧ ∀ j, v.ownBlock = some j → w0.heap.size ≤ j
theorem Own0.step {w0 : World} {e sz : Nat} {v : Value} {rows : List (List Value)} (h : Own0 w0 w e sz v rows) (hb : Below w.heap.size w w') : Own0 w0 w' e sz v rows := ⟨h.1.chg (S := fun _ => False) (Chg.of_below hb) fun _ _ h => h, h.2⟩
theorem Own0.at {w0 : World} {e sz K t : Nat} {c : Array Value} {v : Value} {rows : List (List Value)} (h : Own0 w0 w e sz v rows) (hk : ob w K = some (.cells c t (0, 0))) (hne : t ≠ e) (hc : Chg (fun j => j = K) w w') : Own0 w0 w' e sz v rows :=
  ⟨h.1.chg hc fun k hk' e' => by
    subst e'
    obtain ⟨c', h'⟩ := h.1.typed hk'
    rw [hk] at h'
    injection h' with h'
    injection h' with _ h'
    exact hne h', h.2⟩

theorem Own0.atS {S : Nat → Prop} {w0 : World} {e sz t : Nat} {v : Value} {rows : List (List Value)} (h : Own0 w0 w e sz v rows) (hc : Chg S w w') (hS : ∀ j, S j → ∃ c, ob w j = some (.cells c t (0, 0))) (hne : t ≠ e) : Own0 w0 w' e sz v rows :=
  ⟨h.1.chg hc fun k hk' e' => by
    obtain ⟨c, hk⟩ := hS k e'
    obtain ⟨c', h'⟩ := h.1.typed hk'
    rw [hk] at h'
    injection h' with h'
    injection h' with _ h'
    exact hne h', h.2⟩
theorem OwnAny.step {w0 : World} {e sz : Nat} {t : Value} {rows : List (List Value)} (h : ∃ A n1 s, t = .slice A n1 s ∧ Own0 w0 w e sz t rows) (hb : Below w.heap.size w w') : ∃ A n1 s, t = .slice A n1 s ∧ Own0 w0 w' e sz t rows := by
  obtain ⟨A, n1, s, h1, h2⟩ := h
  exact ⟨A, n1, s, h1, h2.step hb⟩
theorem obAny.step {t : Value} {o : Obj} {N : Nat} (h : ∃ k, t = .pointer (some ⟨k, 0, none⟩) ∧ N ≤ k ∧ ob w k = some o) (hb : Below w.heap.size w w') : ∃ k, t = .pointer (some ⟨k, 0, none⟩) ∧ N ≤ k ∧ ob w' k = some o := by
  obtain ⟨k, h1, h2, h3⟩ := h
  exact ⟨k, h1, h2, ob_step hb h3⟩

set_option maxHeartbeats 8000000 in
set_option maxRecDepth 20000 in
theorem NodePlace_calls (h : NodeIn w a n FC) :
    Calls Tryz.prog 15 #[.pointer (some ⟨a.p, 0, none⟩)] w fun e w' =>
      ∃ v1 v2, e = .returned (.agg #[v1, .bool n.cpu.busy, .int .i64 n.cpu.op.block, .bool n.cpu.op.write, .int .i64 n.cpu.op.value, v2]) ∧ Own0 w w' 53 5 v1 (n.cache.all.map Line.cells) ∧ Own0 w w' 124 3 v2 (n.table.list.map Active.cells) ∧ Below w.heap.size w w' := by
  have H := Lib.hid h
  clear h
  go_enter Tryz.func15, Tryz.ntmps15
  go_upto_region 1 with fail
  obtain ⟨W, hW⟩ : ∃ W, W = (w.alloc (Obj.cells #[.slice none 0 0, .bool false, .int .i64 0, .bool false, .int .i64 0, .slice none 0 0] 50)) := ⟨_, rfl⟩
  rw [← hW]
  have bW : Below w.heap.size w W := by rw [hW]; exact Chg.below (by repeat (first | with_reducible exact Chg.refl _ _ | with_reducible exact chg0 | with_reducible refine Chg.drewN ?_ _ | with_reducible refine Chg.drew ?_ | with_reducible refine Chg.alloc ?_ _ | with_reducible refine Chg.setCell ?_ _ _ (by first | (simp; done) | omega | (simp; omega)) | with_reducible refine Chg.setBlock ?_ _ _ (by first | (simp; done) | omega | (simp; omega)) | exact Chg.refl _ _))
  have oW : ob W w.heap.size = some (.cells #[.slice none 0 0, .bool false, .int .i64 0, .bool false, .int .i64 0, .slice none 0 0] 50 (0, 0)) := by rw [hW]; simp [go_sem]
  have lW : w.heap.size < W.heap.size := ob_lt oW
  have HN := Lib.hid (H.out.below bW)
  have BW := Lib.hid bW
  have OW := Lib.hid oW
  clear hW bW oW
  have HBW := Lib.hid (Below.refl W.heap.size W)
  obtain ⟨c0, c1, c2, c3, c4, c5, c6, c7, c8, c9, c10, c11, c12, c13, c14, cf, cl⟩ := HN.out.cells
  have lw0 : w.heap.size ≤ W.heap.size := BW.out.size
  have hS : W.cell? ⟨a.p, 10, none⟩ = some (.pointer (some ⟨a.lp, 0, none⟩)) ∧ W.cell? ⟨a.p, 11, none⟩ = some (.pointer (some ⟨a.kp, 0, none⟩)) := ⟨c10, c11⟩
  clear c0 c1 c2 c3 c4 c5 c6 c7 c8 c9 c10 c11 c12 c13 c14 cf
  go_cut [3] (fun t3 wx => ∃ k A1 n1 s1 A2 n2 s2, t3 = .pointer (some ⟨k, 0, none⟩) ∧ Below W.heap.size W wx ∧ W.heap.size ≤ k ∧ ob wx k = some (.cells #[.slice A1 n1 s1, .bool false, .int .i64 0, .bool false, .int .i64 0, .slice A2 n2 s2] 50 (0, 0)) ∧ Own0 w wx 53 5 (.slice A1 n1 s1) (n.cache.all.map Line.cells) ∧ Own0 w wx 124 3 (.slice A2 n2 s2) (n.table.list.map Active.cells))
  case first =>
    refine wp_region_held_drew (S := fun V => V.cell? ⟨a.p, 10, none⟩ = some (.pointer (some ⟨a.lp, 0, none⟩)) ∧ V.cell? ⟨a.p, 11, none⟩ = some (.pointer (some ⟨a.kp, 0, none⟩))) (by kernel_rfl) (by exact hS) (fun hHeld => ?_)
    refine take_at 0 (some 4) (v := ?v0) (by kernel_rfl) (by kernel_rfl) (by kernel_rfl) (by kernel_rfl) (fun _ _ _ _ h => h) (fun o ho => ?hy0) hHeld ?rest0
    case hy0 => (simp only [List.getElem?_toArray, List.getElem?_cons_succ, List.getElem?_cons_zero, Option.some.injEq] at ho; subst ho; refine Or.inl ⟨by rfl, ?_⟩; intro V hSw; (try dsimp only at hSw); go_simp <;> (try with_reducible rfl))
    (try simp only [Act.put, List.setIfInBounds_toArray, List.set_cons_zero, List.set_cons_succ])
    refine take_at 1 (some 5) (v := ?v1) (by kernel_rfl) (by kernel_rfl) (by kernel_rfl) (by kernel_rfl) (fun _ _ _ _ h => h) (fun o ho => ?hy1) hHeld ?rest1
    case hy1 => (simp only [List.getElem?_toArray, List.getElem?_cons_succ, List.getElem?_cons_zero, Option.some.injEq] at ho; subst ho; refine Or.inl ⟨by rfl, ?_⟩; intro V hSw; (try dsimp only at hSw); go_simp <;> (try with_reducible rfl))
    (try simp only [Act.put, List.setIfInBounds_toArray, List.set_cons_zero, List.set_cons_succ])
    refine take_at 2 (some 6) (v := ?v2) (by kernel_rfl) (by kernel_rfl) (by kernel_rfl) (by kernel_rfl) (fun _ _ _ _ h => h) (fun o ho => ?hy2) hHeld ?rest2
    case hy2 => (simp only [List.getElem?_toArray, List.getElem?_cons_succ, List.getElem?_cons_zero, Option.some.injEq] at ho; subst ho; refine Or.inl ⟨by rfl, ?_⟩; intro V hSw; (try dsimp only at hSw); go_simp <;> (try with_reducible rfl))
    (try simp only [Act.put, List.setIfInBounds_toArray, List.set_cons_zero, List.set_cons_succ])
    refine take_at 3 (some 7) (v := ?v3) (by kernel_rfl) (by kernel_rfl) (by kernel_rfl) (by kernel_rfl) (fun _ _ _ _ h => h) (fun o ho => ?hy3) hHeld ?rest3
    case hy3 => (simp only [List.getElem?_toArray, List.getElem?_cons_succ, List.getElem?_cons_zero, Option.some.injEq] at ho; subst ho; refine Or.inl ⟨by rfl, ?_⟩; intro V hSw; (try dsimp only at hSw); go_simp <;> (try with_reducible rfl))
    (try simp only [Act.put, List.setIfInBounds_toArray, List.set_cons_zero, List.set_cons_succ])
    refine take_at 5 (some 9) (v := ?v5) (by kernel_rfl) (by kernel_rfl) (by kernel_rfl) (by kernel_rfl) (fun _ _ _ _ h => h) (fun o ho => ?hy5) hHeld ?rest5
    case hy5 => (simp only [List.getElem?_toArray, List.getElem?_cons_succ, List.getElem?_cons_zero, Option.some.injEq] at ho; subst ho; refine Or.inl ⟨by rfl, ?_⟩; intro V hSw; (try dsimp only at hSw); go_simp <;> (try with_reducible rfl))
    (try simp only [Act.put, List.setIfInBounds_toArray, List.set_cons_zero, List.set_cons_succ])
    refine take_at 6 (some 10) (v := ?v6) (by kernel_rfl) (by kernel_rfl) (by kernel_rfl) (by kernel_rfl) (fun _ _ _ _ h => h) (fun o ho => ?hy6) hHeld ?rest6
    case hy6 => (simp only [List.getElem?_toArray, List.getElem?_cons_succ, List.getElem?_cons_zero, Option.some.injEq] at ho; subst ho; refine Or.inl ⟨by rfl, ?_⟩; intro V hSw; (try dsimp only at hSw); go_simp <;> (try with_reducible rfl))
    (try simp only [Act.put, List.setIfInBounds_toArray, List.set_cons_zero, List.set_cons_succ])
    refine take_at 7 (some 11) (v := ?v7) (by kernel_rfl) (by kernel_rfl) (by kernel_rfl) (by kernel_rfl) (fun _ _ _ _ h => h) (fun o ho => ?hy7) hHeld ?rest7
    case hy7 => (simp only [List.getElem?_toArray, List.getElem?_cons_succ, List.getElem?_cons_zero, Option.some.injEq] at ho; subst ho; refine Or.inl ⟨by rfl, ?_⟩; intro V hSw; (try dsimp only at hSw); go_simp <;> (try with_reducible rfl))
    (try simp only [Act.put, List.setIfInBounds_toArray, List.set_cons_zero, List.set_cons_succ])
    refine take_at 8 (some 12) (v := ?v8) (by kernel_rfl) (by kernel_rfl) (by kernel_rfl) (by kernel_rfl) (fun _ _ _ _ h => h) (fun o ho => ?hy8) hHeld ?rest8
    case hy8 => (simp only [List.getElem?_toArray, List.getElem?_cons_succ, List.getElem?_cons_zero, Option.some.injEq] at ho; subst ho; refine Or.inl ⟨by rfl, ?_⟩; intro V hSw; (try dsimp only at hSw); go_simp <;> (try with_reducible rfl))
    (try simp only [Act.put, List.setIfInBounds_toArray, List.set_cons_zero, List.set_cons_succ])
    refine inv_intro ?_
    intro Tz Lz0 hT hL0
    (try simp only at hT)
    refine wpAnyH_inv (J := fun fz Lz az V => ∃ (b0 : Bool) (b1 : Bool) (b2 : Bool) (b3 : Bool) (t0 : Value) (t1 : Value) (t2 : Value) (t3 : Value), fz = 1 + ((cond b0 0 1) + (cond b1 0 1) + (cond b2 0 1) + (cond b3 0 1)) ∧ Lz = ((((Lz0.setIfInBounds 4 b0).setIfInBounds 9 b1).setIfInBounds 11 b2).setIfInBounds 10 b3) ∧ az = ⟨((((Tz.setIfInBounds 8 t0).setIfInBounds 13 t1).setIfInBounds 3 t2).setIfInBounds 14 t3), []⟩ ∧ (V.cell? ⟨a.p, 10, none⟩ = some (.pointer (some ⟨a.lp, 0, none⟩)) ∧ V.cell? ⟨a.p, 11, none⟩ = some (.pointer (some ⟨a.kp, 0, none⟩))) ∧ Below W.heap.size W V ∧ (b0 = true → ∃ A n1 s, t0 = .slice A n1 s ∧ Own0 w V 53 5 t0 (n.cache.all.map Line.cells)) ∧ (b1 = true → ∃ A n1 s, t1 = .slice A n1 s ∧ Own0 w V 124 3 t1 (n.table.list.map Active.cells)) ∧ (b2 = true → ∃ k, t2 = .pointer (some ⟨k, 0, none⟩) ∧ W.heap.size ≤ k ∧ ob V k = some (.cells #[.slice none 0 0, .bool false, .int .i64 0, .bool false, .int .i64 0, .slice none 0 0] 50 (0, 0))) ∧ (b3 = true → b0 = true ∧ b1 = true ∧ t3 = .agg #[t0, .bool false, .int .i64 0, .bool false, .int .i64 0, t1])) ?step _ _ _ _ ?start
    case start =>
      refine ⟨false, false, false, false, Tz.getD 8 undef, Tz.getD 13 undef, Tz.getD 3 undef, Tz.getD 14 undef, rfl, ?_, ?_, hHeld, (Chg.below (Chg.drew (Chg.refl _ _))), (fun h => by cases h), (fun h => by cases h), (fun h => by cases h), (fun h => by cases h)⟩
      · subst hL0; rfl
      · simp only [set_same]
    case step =>
      rintro fz Lz az V ⟨b0, b1, b2, b3, t0, t1, t2, t3, rfl, rfl, rfl, hS, hB, h1, h2, h3, h4⟩
      by_cases hall : b0 = true ∧ b1 = true ∧ b2 = true ∧ b3 = true
      · left
        obtain ⟨rfl, rfl, rfl, rfl⟩ := hall
        replace h1 := h1 rfl
        replace h2 := h2 rfl
        replace h3 := h3 rfl
        replace h4 := h4 rfl
        subst hT
        subst hL0
        simp only [List.setIfInBounds_toArray, List.set_cons_zero, List.set_cons_succ]
        obtain ⟨_, _, rfl⟩ := h4
        obtain ⟨A1, n1, s1, rfl, hA⟩ := h1
        obtain ⟨A2, n2, s2, rfl, hT2⟩ := h2
        obtain ⟨k, rfl, hk0, hk⟩ := h3
        obtain ⟨z0, z1, z2, z3, z4, z5, zf⟩ := ob_cells6 hk
        have lzk := ob_lt hk
        refine one_at 12 (by kernel_rfl) (by kernel_rfl) (fun o ho K hK => ?_)
        simp only [List.getElem?_toArray, List.getElem?_cons_succ, List.getElem?_cons_zero, Option.some.injEq] at ho
        subst ho
        go_simp
        refine hK.out _ _ (keptAt_2 k (by (repeat (first | with_reducible exact Chg.refl _ _ | with_reducible refine Chg.drewN ?_ _ | with_reducible refine Chg.drew ?_ | with_reducible refine Chg.alloc ?_ _ | with_reducible refine Chg.setCell ?_ _ _ (fun _ => rfl)))) (by (simp only [ne_eq]; omega)) hS) (fun hHeld => ?_)
        clear hK K
        (try simp only [Act.put, List.setIfInBounds_toArray, List.set_cons_zero, List.set_cons_succ])
        refine wpAnyH_done (by kernel_rfl) ?_ _
        (go_wp2_with fail)
        go_meet
        refine ⟨k, A1, n1, s1, A2, n2, s2, rfl, below_chg hB (S := fun j => j = k) (by (repeat (first | with_reducible exact Chg.refl _ _ | with_reducible refine Chg.drewN ?_ _ | with_reducible refine Chg.drew ?_ | with_reducible refine Chg.alloc ?_ _ | with_reducible refine Chg.setCell ?_ _ _ (fun _ => rfl)))) (fun j hj e => by omega), hk0, by simp [go_sem, hk, lzk, setAt], hA.at hk (by decide) (by (repeat (first | with_reducible exact Chg.refl _ _ | with_reducible refine Chg.drewN ?_ _ | with_reducible refine Chg.drew ?_ | with_reducible refine Chg.alloc ?_ _ | with_reducible refine Chg.setCell ?_ _ _ (fun _ => rfl)))), hT2.at hk (by decide) (by (repeat (first | with_reducible exact Chg.refl _ _ | with_reducible refine Chg.drewN ?_ _ | with_reducible refine Chg.drew ?_ | with_reducible refine Chg.alloc ?_ _ | with_reducible refine Chg.setCell ?_ _ _ (fun _ => rfl))))⟩
      · right
        obtain ⟨f', hf'⟩ : ∃ f', 1 + ((cond b0 0 1) + (cond b1 0 1) + (cond b2 0 1) + (cond b3 0 1)) = f' + 1 := by
          cases b0 <;> cases b1 <;> cases b2 <;> cases b3 <;> first | exact ⟨_, rfl⟩ | exact absurd ⟨rfl, rfl, rfl, rfl⟩ hall
        refine ⟨f', hf', ?_, fun i hi => ?_⟩
        · subst hL0
          cases b0 <;> cases b1 <;> cases b2 <;> cases b3 <;> first | exact absurd ⟨rfl, rfl, rfl, rfl⟩ hall | exact ne_nil_of (by kernel_rfl)
        · have hm := mem_all (p := fun i => (i == 4 && !b0) || (i == 9 && !b1) || (i == 11 && !b2) || (i == 10 && !b3 && b0 && b1)) (by subst hL0; cases b0 <;> cases b1 <;> cases b2 <;> cases b3 <;> first | exact absurd ⟨rfl, rfl, rfl, rfl⟩ hall | kernel_rfl) hi
          simp only [Bool.or_eq_true, Bool.and_eq_true, beq_iff_eq, Bool.not_eq_true'] at hm
          clear hi hall
          rcases hm with ((⟨rfl, rfl⟩ | ⟨rfl, rfl⟩) | ⟨rfl, rfl⟩) | ⟨⟨⟨rfl, rfl⟩, rfl⟩, rfl⟩
          · refine run_at (by kernel_rfl) (fun o ho K hK => ?_)
            simp only [List.getElem?_toArray, List.getElem?_cons_succ, List.getElem?_cons_zero, Option.some.injEq] at ho
            subst ho
            subst hT
            simp only [List.setIfInBounds_toArray, List.set_cons_zero, List.set_cons_succ]
            go_simp
            go_at_call 41
            refine (All_calls (HN.out.cache.below (below_trans hB (Chg.below (by repeat (first | with_reducible exact Chg.refl _ _ | with_reducible exact chg0 | with_reducible refine Chg.drewN ?_ _ | with_reducible refine Chg.drew ?_ | with_reducible refine Chg.alloc ?_ _ | with_reducible refine Chg.setCell ?_ _ _ (by first | (simp; done) | omega | (simp; omega)) | with_reducible refine Chg.setBlock ?_ _ _ (by first | (simp; done) | omega | (simp; omega)) | exact Chg.refl _ _)))))).mono ?_
            rintro e wA ⟨u1, rfl, hu, hl, hbI⟩
            have hstep := below_trans (Chg.below (w := V) (by repeat (first | with_reducible exact Chg.refl _ _ | with_reducible exact chg0 | with_reducible refine Chg.drewN ?_ _ | with_reducible refine Chg.drew ?_ | with_reducible refine Chg.alloc ?_ _ | with_reducible refine Chg.setCell ?_ _ _ (by first | (simp; done) | omega | (simp; omega)) | with_reducible refine Chg.setBlock ?_ _ _ (by first | (simp; done) | omega | (simp; omega)) | exact Chg.refl _ _))) hbI
            have hS' := kept_2 (S := fun _ => False) (Chg.of_below hstep) (by simp) hS
            obtain ⟨A1, n1, s1, e1⟩ := hu.shape
            subst e1
            have hfr := fun j hj => Nat.le_trans (Nat.le_trans lw0 (below_trans hB (Chg.below (w := V) (by repeat (first | with_reducible exact Chg.refl _ _ | with_reducible exact chg0 | with_reducible refine Chg.drewN ?_ _ | with_reducible refine Chg.drew ?_ | with_reducible refine Chg.alloc ?_ _ | with_reducible refine Chg.setCell ?_ _ _ (by first | (simp; done) | omega | (simp; omega)) | with_reducible refine Chg.setBlock ?_ _ _ (by first | (simp; done) | omega | (simp; omega)) | exact Chg.refl _ _)))).size) (hl j hj)
            go_wp2_with fail
            refine hK.out _ _ ⟨hS', ⟨true, b1, b2, b3, _, t1, t2, t3, ?_, ?_, ?_, hS', below_trans hB hstep, fun _ => ⟨A1, n1, s1, rfl, hu, hfr⟩, fun hb => OwnAny.step (h2 hb) hstep, fun hb => obAny.step (h3 hb) hstep, fun hb => absurd (h4 hb).1 (by decide)⟩⟩
            · simp only [cond] at hf' ⊢; omega
            · subst hL0; rfl
            · first | rfl | (simp only [Act.put, List.setIfInBounds_toArray, List.set_cons_zero, List.set_cons_succ])
          · refine run_at (by kernel_rfl) (fun o ho K hK => ?_)
            simp only [List.getElem?_toArray, List.getElem?_cons_succ, List.getElem?_cons_zero, Option.some.injEq] at ho
            subst ho
            subst hT
            simp only [List.setIfInBounds_toArray, List.set_cons_zero, List.set_cons_succ]
            go_simp
            go_at_call 42
            refine (TList_calls (HN.out.table.below (below_trans hB (Chg.below (by repeat (first | with_reducible exact Chg.refl _ _ | with_reducible exact chg0 | with_reducible refine Chg.drewN ?_ _ | with_reducible refine Chg.drew ?_ | with_reducible refine Chg.alloc ?_ _ | with_reducible refine Chg.setCell ?_ _ _ (by first | (simp; done) | omega | (simp; omega)) | with_reducible refine Chg.setBlock ?_ _ _ (by first | (simp; done) | omega | (simp; omega)) | exact Chg.refl _ _)))))).mono ?_
            rintro e wB ⟨u2, rfl, hu, hl, hbI⟩
            have hstep := below_trans (Chg.below (w := V) (by repeat (first | with_reducible exact Chg.refl _ _ | with_reducible exact chg0 | with_reducible refine Chg.drewN ?_ _ | with_reducible refine Chg.drew ?_ | with_reducible refine Chg.alloc ?_ _ | with_reducible refine Chg.setCell ?_ _ _ (by first | (simp; done) | omega | (simp; omega)) | with_reducible refine Chg.setBlock ?_ _ _ (by first | (simp; done) | omega | (simp; omega)) | exact Chg.refl _ _))) hbI
            have hS' := kept_2 (S := fun _ => False) (Chg.of_below hstep) (by simp) hS
            obtain ⟨A2, n2, s2, e1⟩ := hu.shape
            subst e1
            have hfr := fun j hj => Nat.le_trans (Nat.le_trans lw0 (below_trans hB (Chg.below (w := V) (by repeat (first | with_reducible exact Chg.refl _ _ | with_reducible exact chg0 | with_reducible refine Chg.drewN ?_ _ | with_reducible refine Chg.drew ?_ | with_reducible refine Chg.alloc ?_ _ | with_reducible refine Chg.setCell ?_ _ _ (by first | (simp; done) | omega | (simp; omega)) | with_reducible refine Chg.setBlock ?_ _ _ (by first | (simp; done) | omega | (simp; omega)) | exact Chg.refl _ _)))).size) (hl j hj)
            go_wp2_with fail
            refine hK.out _ _ ⟨hS', ⟨b0, true, b2, b3, t0, _, t2, t3, ?_, ?_, ?_, hS', below_trans hB hstep, fun hb => OwnAny.step (h1 hb) hstep, fun _ => ⟨A2, n2, s2, rfl, hu, hfr⟩, fun hb => obAny.step (h3 hb) hstep, fun hb => absurd (h4 hb).2.1 (by decide)⟩⟩
            · simp only [cond] at hf' ⊢; omega
            · subst hL0; rfl
            · first | rfl | (simp only [Act.put, List.setIfInBounds_toArray, List.set_cons_zero, List.set_cons_succ])
          · refine run_at (by kernel_rfl) (fun o ho K hK => ?_)
            simp only [List.getElem?_toArray, List.getElem?_cons_succ, List.getElem?_cons_zero, Option.some.injEq] at ho
            subst ho
            subst hT
            simp only [List.setIfInBounds_toArray, List.set_cons_zero, List.set_cons_succ]
            go_simp
            have hstep : Below V.heap.size V (V.alloc (.cells #[.slice none 0 0, .bool false, .int .i64 0, .bool false, .int .i64 0, .slice none 0 0] 50)) := Chg.below (by repeat (first | with_reducible exact Chg.refl _ _ | with_reducible exact chg0 | with_reducible refine Chg.drewN ?_ _ | with_reducible refine Chg.drew ?_ | with_reducible refine Chg.alloc ?_ _ | with_reducible refine Chg.setCell ?_ _ _ (by first | (simp; done) | omega | (simp; omega)) | with_reducible refine Chg.setBlock ?_ _ _ (by first | (simp; done) | omega | (simp; omega)) | exact Chg.refl _ _))
            have hS' := kept_2 (S := fun _ => False) (Chg.of_below hstep) (by simp) hS
            refine hK.out _ _ ⟨hS', ⟨b0, b1, true, b3, t0, t1, _, t3, ?_, ?_, ?_, hS', below_trans hB hstep, fun hb => OwnAny.step (h1 hb) hstep, fun hb => OwnAny.step (h2 hb) hstep, fun _ => ⟨_, rfl, hB.size, ob_alloc_at _ _⟩, fun hb => (fun h _ => h) (h4 hb) hstep⟩⟩
            · simp only [cond] at hf' ⊢; omega
            · subst hL0; rfl
            · first | rfl | (simp only [Act.put, List.setIfInBounds_toArray, List.set_cons_zero, List.set_cons_succ])
          · refine run_at (by kernel_rfl) (fun o ho K hK => ?_)
            simp only [List.getElem?_toArray, List.getElem?_cons_succ, List.getElem?_cons_zero, Option.some.injEq] at ho
            subst ho
            obtain ⟨A1, n1, s1, rfl, hA⟩ := h1 rfl
            obtain ⟨A2, n2, s2, rfl, hT2⟩ := h2 rfl
            subst hT
            simp only [List.setIfInBounds_toArray, List.set_cons_zero, List.set_cons_succ]
            go_simp
            have hstep : Below V.heap.size V V := Below.refl _ _
            have hS' := hS
            refine hK.out _ _ ⟨hS', ⟨true, true, b2, true, (.slice A1 n1 s1), (.slice A2 n2 s2), t2, _, ?_, ?_, ?_, hS', below_trans hB hstep, fun hb => OwnAny.step (h1 hb) hstep, fun hb => OwnAny.step (h2 hb) hstep, fun hb => obAny.step (h3 hb) hstep, fun _ => ⟨rfl, rfl, rfl⟩⟩⟩
            · simp only [cond] at hf' ⊢; omega
            · subst hL0; rfl
            · first | rfl | (simp only [Act.put, List.setIfInBounds_toArray, List.set_cons_zero, List.set_cons_succ])
  case rest =>
    obtain ⟨k, A1, n1, s1, A2, n2, s2, rfl, hB, hk0, hk, hA, hT⟩ := hcut
    have HNc := Lib.hid (HN.out.below hB)
    have HB := Lib.hid hB
    have HK := Lib.hid hk
    have HA := Lib.hid hA
    have HT := Lib.hid hT
    have c12 : wc.cell? ⟨a.p, 12, none⟩ = some (.pointer (some ⟨a.cp, 0, none⟩)) := HNc.out.cells.2.2.2.2.2.2.2.2.2.2.2.2.1
    have lpc := ob_lt HNc.out.at_
    clear hB hk hA hT cl
    go_wp2_with fail
    refine (Pending_calls (HNc.out.cpu.below (Chg.below (by repeat (first | with_reducible exact Chg.refl _ _ | with_reducible exact chg0 | with_reducible refine Chg.drewN ?_ _ | with_reducible refine Chg.drew ?_ | with_reducible refine Chg.alloc ?_ _ | with_reducible refine Chg.setCell ?_ _ _ (by first | (simp; done) | omega | (simp; omega)) | with_reducible refine Chg.setBlock ?_ _ _ (by first | (simp; done) | omega | (simp; omega)) | exact Chg.refl _ _))))).mono ?_
    rintro e w5 ⟨rfl, hb5⟩
    have hb : Below wc.heap.size wc w5 := below_trans (Chg.below (by repeat (first | with_reducible exact Chg.refl _ _ | with_reducible exact chg0 | with_reducible refine Chg.drewN ?_ _ | with_reducible refine Chg.drew ?_ | with_reducible refine Chg.alloc ?_ _ | with_reducible refine Chg.setCell ?_ _ _ (by first | (simp; done) | omega | (simp; omega)) | with_reducible refine Chg.setBlock ?_ _ _ (by first | (simp; done) | omega | (simp; omega)) | exact Chg.refl _ _))) hb5
    simp only [Op.val, Op.cells]
    have hk5 := ob_step hb HK.out
    have ho5 := ob_step (below_trans HB.out hb) OW.out
    obtain ⟨z0, z1, z2, z3, z4, z5, zf⟩ := ob_cells6 hk5
    obtain ⟨y0, y1, y2, y3, y4, y5, yf⟩ := ob_cells6 ho5
    have lzk := ob_lt hk5
    have lyk := ob_lt ho5
    have hne : ¬ k = w.heap.size := by omega
    have hne' : ¬ w.heap.size = k := by omega
    have HA5 := Lib.hid (HA.out.step hb)
    have HT5 := Lib.hid (HT.out.step hb)
    have HK5 := Lib.hid hk5
    have HO5 := Lib.hid ho5
    have HB5 := Lib.hid (below_trans BW.out (below_trans HB.out hb))
    clear hb hb5 hk5 ho5 c12 lpc
    go_wp2_with fail
    (try simp only [Exit.inBlock, Exit.then])
    refine bodyRet1 _ rfl rfl (ResIs.row Tryz.underlying50 rfl (by kernel_rfl) rfl (by first | (simp [go_sem, HO5.out, HK5.out, lzk, lyk, setAt, hne, hne']; done) | (simp [go_sem, HO5.out, HK5.out, lzk, lyk, setAt, hne, hne']; exact ⟨rfl, rfl, rfl⟩))) ?_
    have hS : ∀ j, (j = k ∨ j = w.heap.size) → ∃ c, ob w5 j = some (.cells c 50 (0, 0)) := by
      rintro j (rfl | rfl)
      · exact ⟨_, HK5.out⟩
      · exact ⟨_, HO5.out⟩
    refine ⟨_, _, rfl, HA5.out.atS (t := 50) (S := fun j => j = k ∨ j = w.heap.size) (by repeat (first | with_reducible exact Chg.refl _ _ | with_reducible refine Chg.drewN ?_ _ | with_reducible refine Chg.drew ?_ | with_reducible refine Chg.alloc ?_ _ | with_reducible refine Chg.setCell ?_ _ _ (fun _ => Or.inl rfl) | with_reducible refine Chg.setCell ?_ _ _ (fun _ => Or.inr rfl))) hS (by decide), HT5.out.atS (t := 50) (S := fun j => j = k ∨ j = w.heap.size) (by repeat (first | with_reducible exact Chg.refl _ _ | with_reducible refine Chg.drewN ?_ _ | with_reducible refine Chg.drew ?_ | with_reducible refine Chg.alloc ?_ _ | with_reducible refine Chg.setCell ?_ _ _ (fun _ => Or.inl rfl) | with_reducible refine Chg.setCell ?_ _ _ (fun _ => Or.inr rfl))) hS (by decide), below_chg HB5.out (S := fun j => j = k ∨ j = w.heap.size) (by repeat (first | with_reducible exact Chg.refl _ _ | with_reducible refine Chg.drewN ?_ _ | with_reducible refine Chg.drew ?_ | with_reducible refine Chg.alloc ?_ _ | with_reducible refine Chg.setCell ?_ _ _ (fun _ => Or.inl rfl) | with_reducible refine Chg.setCell ?_ _ _ (fun _ => Or.inr rfl))) (fun j hj e => by omega)⟩
end
end Go.Proofs.YtchlioikkhnidaaGreat

/-
  The program's node: one like it.
-/
namespace Go.Proofs.YtchlioikkhnidaaGreat
open Go.RowKit Go.Sort Go.ChangeShapes Go.WideShapes Go.ChangeAt
open Go.ChangeMaps (setBlock)
set_option linter.unusedVariables false
set_option linter.unusedSimpArgs false
section
variable {w w' w'' : World} {a : NAddr} {q : Nat} {n n' : Node} {L L' : List Letter} {D D' : List Done} {F F' FC : Nat → Prop} {v1 v2 : Value}
set_option maxHeartbeats 8000000 in
set_option maxRecDepth 20000 in
theorem NodeCopy_calls (h : NodeIn w a n FC) :
    Calls Tryz.prog 27 #[.pointer (some ⟨a.p, 0, none⟩)] w fun e w' =>
      ∃ a' FC', e = .returned (.pointer (some ⟨a'.p, 0, none⟩)) ∧ NodeIn w' a' n FC' ∧ (∀ j, nFp a' FC' j → w.heap.size ≤ j) ∧ Below w.heap.size w w' := by
  have H := Lib.hid h
  obtain ⟨c0, c1, c2, c3, c4, c5, c6, c7, c8, c9, c10, c11, c12, c13, c14, cf, cl⟩ := h.cells
  clear h
  go_enter Tryz.func27, Tryz.ntmps27
  go_upto_region 2 with fail
  obtain ⟨W, hW⟩ : ∃ W, W = (w.alloc (Obj.cells #[.int .i64 n.c.nodes, .int .i64 n.c.blocks, .int .i64 n.c.tokens, .int .i64 n.c.sets, .int .i64 n.c.ways, .int .i64 n.c.cap, .int .i64 n.c.wait, .int .i64 n.c.tries, .int .i64 n.c.policy, .int .i64 n.id, .pointer (some ⟨a.lp, 0, none⟩), .pointer (some ⟨a.kp, 0, none⟩), .pointer (some ⟨a.cp, 0, none⟩), .map (some a.am), .map (some a.tm)] 90)) := ⟨_, rfl⟩
  rw [← hW]
  have bW : Below w.heap.size w W := by rw [hW]; exact Chg.below (by repeat (first | with_reducible exact Chg.refl _ _ | with_reducible exact chg0 | with_reducible refine Chg.drewN ?_ _ | with_reducible refine Chg.drew ?_ | with_reducible refine Chg.alloc ?_ _ | with_reducible refine Chg.setCell ?_ _ _ (by first | (simp; done) | omega | (simp; omega)) | with_reducible refine Chg.setBlock ?_ _ _ (by first | (simp; done) | omega | (simp; omega)) | exact Chg.refl _ _))
  have oW : ob W w.heap.size = some (.cells #[.int .i64 n.c.nodes, .int .i64 n.c.blocks, .int .i64 n.c.tokens, .int .i64 n.c.sets, .int .i64 n.c.ways, .int .i64 n.c.cap, .int .i64 n.c.wait, .int .i64 n.c.tries, .int .i64 n.c.policy, .int .i64 n.id, .pointer (some ⟨a.lp, 0, none⟩), .pointer (some ⟨a.kp, 0, none⟩), .pointer (some ⟨a.cp, 0, none⟩), .map (some a.am), .map (some a.tm)] 90 (0, 0)) := by rw [hW]; exact ob_alloc_at _ _
  have hsz : W.heap.size = w.heap.size + 1 := by rw [hW]; simp
  have HN := Lib.hid (H.out.below bW)
  have BW := Lib.hid bW
  have OW := Lib.hid oW
  have HZ := Lib.hid hsz
  have lp0 := ob_lt H.out.at_
  have hS : W.cell? ⟨a.p, 10, none⟩ = some (.pointer (some ⟨a.lp, 0, none⟩)) ∧ W.cell? ⟨a.p, 11, none⟩ = some (.pointer (some ⟨a.kp, 0, none⟩)) ∧ W.cell? ⟨a.p, 12, none⟩ = some (.pointer (some ⟨a.cp, 0, none⟩)) := ⟨HN.out.cells.2.2.2.2.2.2.2.2.2.2.1, HN.out.cells.2.2.2.2.2.2.2.2.2.2.2.1, HN.out.cells.2.2.2.2.2.2.2.2.2.2.2.2.1⟩
  clear hW bW oW hsz c0 c1 c2 c3 c4 c5 c6 c7 c8 c9 c10 c11 c12 c13 c14 cf
  go_cut [] (fun wx => ∃ p1 F1 p2 ab xb p3 N1 N2, ob wx w.heap.size = some (.cells #[.int .i64 n.c.nodes, .int .i64 n.c.blocks, .int .i64 n.c.tokens, .int .i64 n.c.sets, .int .i64 n.c.ways, .int .i64 n.c.cap, .int .i64 n.c.wait, .int .i64 n.c.tries, .int .i64 n.c.policy, .int .i64 n.id, .pointer (some ⟨p1, 0, none⟩), .pointer (some ⟨p2, 0, none⟩), .pointer (some ⟨p3, 0, none⟩), .map (some a.am), .map (some a.tm)] 90 (0, 0)) ∧ CacheAt wx p1 n.cache F1 ∧ TableAt wx p2 ab xb n.table ∧ ProcAt wx p3 n.cpu ∧ (∀ j, F1 j → w.heap.size < j ∧ j < N1) ∧ (N1 ≤ p2 ∧ N1 ≤ ab ∧ N1 ≤ xb ∧ p2 < N2 ∧ ab < N2 ∧ xb < N2 ∧ N2 ≤ p3 ∧ w.heap.size < N1 ∧ N1 ≤ N2) ∧ Below w.heap.size w wx)
  case first =>
    go_region_held3 (fun V => V.cell? ⟨a.p, 10, none⟩ = some (.pointer (some ⟨a.lp, 0, none⟩)) ∧ V.cell? ⟨a.p, 11, none⟩ = some (.pointer (some ⟨a.kp, 0, none⟩)) ∧ V.cell? ⟨a.p, 12, none⟩ = some (.pointer (some ⟨a.cp, 0, none⟩))) (first | with_reducible assumption | (refine kept_3 (S := fun _ => False) ?_ (by simp) hS; (repeat (first | with_reducible exact Chg.refl _ _ | with_reducible exact chg0 | with_reducible refine Chg.drewN ?_ _ | with_reducible refine Chg.drew ?_ | with_reducible refine Chg.alloc ?_ _ | with_reducible refine Chg.setCell ?_ _ _ (by first | (simp; done) | omega | (simp; omega)) | with_reducible refine Chg.setBlock ?_ _ _ (by first | (simp; done) | omega | (simp; omega)) | exact Chg.refl _ _)); done) | (refine keptAt_3 (w.heap.size) ?_ (by (simp only [ne_eq]; omega)) hS; (repeat (first | with_reducible exact Chg.refl _ _ | with_reducible refine Chg.drewN ?_ _ | with_reducible refine Chg.drew ?_ | with_reducible refine Chg.alloc ?_ _ | with_reducible refine Chg.setCell ?_ _ _ (fun _ => rfl))); done) | fail) (first
      | (go_at_call 67; refine (CacheCopy_calls (HN.out.cache.below (Chg.below (by repeat (first | with_reducible exact Chg.refl _ _ | with_reducible exact chg0 | with_reducible refine Chg.drewN ?_ _ | with_reducible refine Chg.drew ?_ | with_reducible refine Chg.alloc ?_ _ | with_reducible refine Chg.setCell ?_ _ _ (by first | (simp; done) | omega | (simp; omega)) | with_reducible refine Chg.setBlock ?_ _ _ (by first | (simp; done) | omega | (simp; omega)) | exact Chg.refl _ _))))).mono ?_; rintro e w2 ⟨p1, F1, rfl, hC, hF, hb2⟩; have hS := kept_3 (S := fun _ => False) (Chg.of_below hb2) (by simp) (by first | with_reducible assumption | (refine kept_3 (S := fun _ => False) ?_ (by simp) hS; (repeat (first | with_reducible exact Chg.refl _ _ | with_reducible exact chg0 | with_reducible refine Chg.drewN ?_ _ | with_reducible refine Chg.drew ?_ | with_reducible refine Chg.alloc ?_ _ | with_reducible refine Chg.setCell ?_ _ _ (by first | (simp; done) | omega | (simp; omega)) | with_reducible refine Chg.setBlock ?_ _ _ (by first | (simp; done) | omega | (simp; omega)) | exact Chg.refl _ _)); done) | fail); have HB2 := Lib.hid (below_trans (Chg.below (w := W) (by repeat (first | with_reducible exact Chg.refl _ _ | with_reducible exact chg0 | with_reducible refine Chg.drewN ?_ _ | with_reducible refine Chg.drew ?_ | with_reducible refine Chg.alloc ?_ _ | with_reducible refine Chg.setCell ?_ _ _ (by first | (simp; done) | omega | (simp; omega)) | with_reducible refine Chg.setBlock ?_ _ _ (by first | (simp; done) | omega | (simp; omega)) | exact Chg.refl _ _))) hb2); have HC := Lib.hid hC; have HF := Lib.hid (show ∀ j, F1 j → W.heap.size ≤ j from fun j hj => hF j hj); clear hb2 hC hF)
      | (go_at_call 68; refine (TCopy_calls (HN.out.table.below (below_trans HB2.out (Chg.below (by repeat (first | with_reducible exact Chg.refl _ _ | with_reducible exact chg0 | with_reducible refine Chg.drewN ?_ _ | with_reducible refine Chg.drew ?_ | with_reducible refine Chg.alloc ?_ _ | with_reducible refine Chg.setCell ?_ _ _ (by first | (simp; done) | omega | (simp; omega)) | with_reducible refine Chg.setBlock ?_ _ _ (by first | (simp; done) | omega | (simp; omega)) | exact Chg.refl _ _)))))).mono ?_; rintro e w3 ⟨p2, ab, xb, rfl, hT, ⟨t1, t2, t3⟩, hb3⟩; have hS := kept_3 (S := fun _ => False) (Chg.of_below hb3) (by simp) (by first | with_reducible assumption | (refine kept_3 (S := fun _ => False) ?_ (by simp) hS; (repeat (first | with_reducible exact Chg.refl _ _ | with_reducible exact chg0 | with_reducible refine Chg.drewN ?_ _ | with_reducible refine Chg.drew ?_ | with_reducible refine Chg.alloc ?_ _ | with_reducible refine Chg.setCell ?_ _ _ (by first | (simp; done) | omega | (simp; omega)) | with_reducible refine Chg.setBlock ?_ _ _ (by first | (simp; done) | omega | (simp; omega)) | exact Chg.refl _ _)); done) | fail); have HB3 := Lib.hid (below_trans (Chg.below (w := w2) (by repeat (first | with_reducible exact Chg.refl _ _ | with_reducible exact chg0 | with_reducible refine Chg.drewN ?_ _ | with_reducible refine Chg.drew ?_ | with_reducible refine Chg.alloc ?_ _ | with_reducible refine Chg.setCell ?_ _ _ (by first | (simp; done) | omega | (simp; omega)) | with_reducible refine Chg.setBlock ?_ _ _ (by first | (simp; done) | omega | (simp; omega)) | exact Chg.refl _ _))) hb3); have HT := Lib.hid hT; have HTL := Lib.hid (show w2.heap.size ≤ p2 ∧ w2.heap.size ≤ ab ∧ w2.heap.size ≤ xb from ⟨t1, t2, t3⟩); clear hb3 hT t1 t2 t3)
      | (go_at_call 69; refine (PCopy_calls (HN.out.cpu.below (below_trans HB2.out (below_trans HB3.out (Chg.below (by repeat (first | with_reducible exact Chg.refl _ _ | with_reducible exact chg0 | with_reducible refine Chg.drewN ?_ _ | with_reducible refine Chg.drew ?_ | with_reducible refine Chg.alloc ?_ _ | with_reducible refine Chg.setCell ?_ _ _ (by first | (simp; done) | omega | (simp; omega)) | with_reducible refine Chg.setBlock ?_ _ _ (by first | (simp; done) | omega | (simp; omega)) | exact Chg.refl _ _))))))).mono ?_; rintro e w4 ⟨p3, rfl, hP, hl4, hb4⟩; have hS := kept_3 (S := fun _ => False) (Chg.of_below hb4) (by simp) (by first | with_reducible assumption | (refine kept_3 (S := fun _ => False) ?_ (by simp) hS; (repeat (first | with_reducible exact Chg.refl _ _ | with_reducible exact chg0 | with_reducible refine Chg.drewN ?_ _ | with_reducible refine Chg.drew ?_ | with_reducible refine Chg.alloc ?_ _ | with_reducible refine Chg.setCell ?_ _ _ (by first | (simp; done) | omega | (simp; omega)) | with_reducible refine Chg.setBlock ?_ _ _ (by first | (simp; done) | omega | (simp; omega)) | exact Chg.refl _ _)); done) | fail); have HB4 := Lib.hid (below_trans (Chg.below (w := w3) (by repeat (first | with_reducible exact Chg.refl _ _ | with_reducible exact chg0 | with_reducible refine Chg.drewN ?_ _ | with_reducible refine Chg.drew ?_ | with_reducible refine Chg.alloc ?_ _ | with_reducible refine Chg.setCell ?_ _ _ (by first | (simp; done) | omega | (simp; omega)) | with_reducible refine Chg.setBlock ?_ _ _ (by first | (simp; done) | omega | (simp; omega)) | exact Chg.refl _ _))) hb4); have HP := Lib.hid hP; have HPL := Lib.hid (show w3.heap.size ≤ p3 from hl4); have hk4 := ob_step HB4.out (ob_step HB3.out (ob_step HB2.out OW.out)); have z10 : w4.cell? ⟨w.heap.size, 10, none⟩ = some (.pointer (some ⟨a.lp, 0, none⟩)) := cell_ob hk4 10; have z11 : w4.cell? ⟨w.heap.size, 11, none⟩ = some (.pointer (some ⟨a.kp, 0, none⟩)) := cell_ob hk4 11; have z12 : w4.cell? ⟨w.heap.size, 12, none⟩ = some (.pointer (some ⟨a.cp, 0, none⟩)) := cell_ob hk4 12; have zf : ∀ i, w4.frozen? ⟨w.heap.size, i, none⟩ = false := (fun i => frozen_ob hk4 i); have lz4 := ob_lt hk4; have HK4 := Lib.hid hk4; clear hb4 hP hl4 hk4)
      | fail)
    all_goals (go_wp2_with fail)
    all_goals go_meet
    all_goals
      have s2 := HB2.out.size
      have s3 := HB3.out.size
      have s4 := HB4.out.size
      have sz := HZ.out
      have hc2 : ∀ j, F1 j → j < w2.heap.size := fun j hj => HC.out.lt hj
      have ht2 := HT.out.lt
      have nK : ∀ j, F1 j → ¬ j = w.heap.size := fun j hj e => by have := HF.out j hj; omega
      refine ⟨p1, F1, p2, ab, xb, p3, w2.heap.size, w3.heap.size, by simp [go_sem, HK4.out, lz4, setAt], (HC.out.chg (S := fun _ => False) (Chg.of_below (below_trans HB3.out HB4.out)) fun _ _ h => h).chg (S := fun j => j = w.heap.size) (by (repeat (first | with_reducible exact Chg.refl _ _ | with_reducible refine Chg.drewN ?_ _ | with_reducible refine Chg.drew ?_ | with_reducible refine Chg.alloc ?_ _ | with_reducible refine Chg.setCell ?_ _ _ (fun _ => rfl)))) nK, (HT.out.below HB4.out).chg (S := fun j => j = w.heap.size) (by (repeat (first | with_reducible exact Chg.refl _ _ | with_reducible refine Chg.drewN ?_ _ | with_reducible refine Chg.drew ?_ | with_reducible refine Chg.alloc ?_ _ | with_reducible refine Chg.setCell ?_ _ _ (fun _ => rfl)))) (by have := HTL.out; omega) (by have := HTL.out; omega) (by have := HTL.out; omega), HP.out.chg (S := fun j => j = w.heap.size) (by (repeat (first | with_reducible exact Chg.refl _ _ | with_reducible refine Chg.drewN ?_ _ | with_reducible refine Chg.drew ?_ | with_reducible refine Chg.alloc ?_ _ | with_reducible refine Chg.setCell ?_ _ _ (fun _ => rfl)))) (by have := HPL.out; omega), fun j hj => ⟨by have := HF.out j hj; omega, hc2 j hj⟩, ⟨HTL.out.1, HTL.out.2.1, HTL.out.2.2, ht2.1, ht2.2.1, ht2.2.2, HPL.out, by omega, s3⟩, below_chg (below_trans BW.out (below_trans HB2.out (below_trans HB3.out HB4.out))) (S := fun j => j = w.heap.size) (by (repeat (first | with_reducible exact Chg.refl _ _ | with_reducible refine Chg.drewN ?_ _ | with_reducible refine Chg.drew ?_ | with_reducible refine Chg.alloc ?_ _ | with_reducible refine Chg.setCell ?_ _ _ (fun _ => rfl)))) (fun j hj e => by omega)⟩
  case rest =>
    obtain ⟨p1, F1, p2, ab, xb, p3, N1, N2, hk, hC, hT, hP, hF1, hN12, hB⟩ := hcut
    have HNc := Lib.hid (H.out.below hB)
    have HB := Lib.hid hB
    have HK := Lib.hid hk
    have HC := Lib.hid hC
    have HT := Lib.hid hT
    have HP := Lib.hid hP
    have HF1 := Lib.hid hF1
    have HN12 := Lib.hid hN12
    obtain ⟨oa, fa, hma, hmoa, hia⟩ := HNc.out.asked
    obtain ⟨ot, ft, hmt, hmot, hit⟩ := HNc.out.told
    have HMA := Lib.hid hma
    have HMT := Lib.hid hmt
    have HOA := Lib.hid hmoa
    have HOT := Lib.hid hmot
    have HIA := Lib.hid hia
    have HIT := Lib.hid hit
    have cl := ob_lt HNc.out.at_
    have hS : wc.cell? ⟨a.p, 13, none⟩ = some (.map (some a.am)) ∧ wc.cell? ⟨a.p, 14, none⟩ = some (.map (some a.tm)) := ⟨HNc.out.cells.2.2.2.2.2.2.2.2.2.2.2.2.2.1, HNc.out.cells.2.2.2.2.2.2.2.2.2.2.2.2.2.2.1⟩
    have lk := ob_lt hk
    clear hB hk hC hT hP hF1 hN12 hma hmt hmoa hmot hia hit
    go_upto_region 3 with fail
    go_cut [] (fun wx => ∃ bm tm, ob wx w.heap.size = some (.cells #[.int .i64 n.c.nodes, .int .i64 n.c.blocks, .int .i64 n.c.tokens, .int .i64 n.c.sets, .int .i64 n.c.ways, .int .i64 n.c.cap, .int .i64 n.c.wait, .int .i64 n.c.tries, .int .i64 n.c.policy, .int .i64 n.id, .pointer (some ⟨p1, 0, none⟩), .pointer (some ⟨p2, 0, none⟩), .pointer (some ⟨p3, 0, none⟩), .map (some bm), .map (some tm)] 90 (0, 0)) ∧ ob wx bm = some oa ∧ ob wx tm = some ot ∧ (bm < tm ∧ (∀ j, F1 j → j < bm) ∧ p2 < bm ∧ ab < bm ∧ xb < bm ∧ p3 < bm ∧ w.heap.size < bm) ∧ Chg (fun j => j = w.heap.size) wc wx)
    case first =>
      go_region_held3 (fun V => V.cell? ⟨a.p, 13, none⟩ = some (.map (some a.am)) ∧ V.cell? ⟨a.p, 14, none⟩ = some (.map (some a.tm))) (first | with_reducible assumption | (refine kept_2 (S := fun _ => False) ?_ (by simp) hS; (repeat (first | with_reducible exact Chg.refl _ _ | with_reducible exact chg0 | with_reducible refine Chg.drewN ?_ _ | with_reducible refine Chg.drew ?_ | with_reducible refine Chg.alloc ?_ _ | with_reducible refine Chg.setCell ?_ _ _ (by first | (simp; done) | omega | (simp; omega)) | with_reducible refine Chg.setBlock ?_ _ _ (by first | (simp; done) | omega | (simp; omega)) | exact Chg.refl _ _)); done) | (refine keptAt_2 (w.heap.size) ?_ (by (simp only [ne_eq]; omega)) hS; (repeat (first | with_reducible exact Chg.refl _ _ | with_reducible refine Chg.drewN ?_ _ | with_reducible refine Chg.drew ?_ | with_reducible refine Chg.alloc ?_ _ | with_reducible refine Chg.setCell ?_ _ _ (fun _ => rfl))); done) | fail) (first
        | (go_at_call 70; refine (CloneO_calls (Chg.ob (S := fun _ => False) (by repeat (first | with_reducible exact Chg.refl _ _ | with_reducible exact chg0 | with_reducible refine Chg.drewN ?_ _ | with_reducible refine Chg.drew ?_ | with_reducible refine Chg.alloc ?_ _ | with_reducible refine Chg.setCell ?_ _ _ (by first | (simp; done) | omega | (simp; omega)) | with_reducible refine Chg.setBlock ?_ _ _ (by first | (simp; done) | omega | (simp; omega)) | exact Chg.refl _ _)) HMA.out (fun h => h)) HOA.out).mono ?_; rintro e w2 ⟨bm, rfl, hO, hbm, hb2⟩; have hS := kept_2 (S := fun _ => False) (Chg.of_below hb2) (by simp) (by first | with_reducible assumption | (refine kept_2 (S := fun _ => False) ?_ (by simp) hS; (repeat (first | with_reducible exact Chg.refl _ _ | with_reducible exact chg0 | with_reducible refine Chg.drewN ?_ _ | with_reducible refine Chg.drew ?_ | with_reducible refine Chg.alloc ?_ _ | with_reducible refine Chg.setCell ?_ _ _ (by first | (simp; done) | omega | (simp; omega)) | with_reducible refine Chg.setBlock ?_ _ _ (by first | (simp; done) | omega | (simp; omega)) | exact Chg.refl _ _)); done) | fail); have HB2 := Lib.hid (below_trans (Chg.below (w := wc) (by repeat (first | with_reducible exact Chg.refl _ _ | with_reducible exact chg0 | with_reducible refine Chg.drewN ?_ _ | with_reducible refine Chg.drew ?_ | with_reducible refine Chg.alloc ?_ _ | with_reducible refine Chg.setCell ?_ _ _ (by first | (simp; done) | omega | (simp; omega)) | with_reducible refine Chg.setBlock ?_ _ _ (by first | (simp; done) | omega | (simp; omega)) | exact Chg.refl _ _))) hb2); have HO := Lib.hid hO; have HBM := Lib.hid (show bm = wc.heap.size from hbm); clear hb2 hO hbm)
        | (go_at_call 71; refine (CloneI_calls (ob_step (below_trans HB2.out (Chg.below (by repeat (first | with_reducible exact Chg.refl _ _ | with_reducible exact chg0 | with_reducible refine Chg.drewN ?_ _ | with_reducible refine Chg.drew ?_ | with_reducible refine Chg.alloc ?_ _ | with_reducible refine Chg.setCell ?_ _ _ (by first | (simp; done) | omega | (simp; omega)) | with_reducible refine Chg.setBlock ?_ _ _ (by first | (simp; done) | omega | (simp; omega)) | exact Chg.refl _ _)))) HMT.out) HOT.out).mono ?_; rintro e w3 ⟨tm, rfl, hO, htm, hb3⟩; have hS := kept_2 (S := fun _ => False) (Chg.of_below hb3) (by simp) (by first | with_reducible assumption | (refine kept_2 (S := fun _ => False) ?_ (by simp) hS; (repeat (first | with_reducible exact Chg.refl _ _ | with_reducible exact chg0 | with_reducible refine Chg.drewN ?_ _ | with_reducible refine Chg.drew ?_ | with_reducible refine Chg.alloc ?_ _ | with_reducible refine Chg.setCell ?_ _ _ (by first | (simp; done) | omega | (simp; omega)) | with_reducible refine Chg.setBlock ?_ _ _ (by first | (simp; done) | omega | (simp; omega)) | exact Chg.refl _ _)); done) | fail); have HB3 := Lib.hid (below_trans (Chg.below (w := w2) (by repeat (first | with_reducible exact Chg.refl _ _ | with_reducible exact chg0 | with_reducible refine Chg.drewN ?_ _ | with_reducible refine Chg.drew ?_ | with_reducible refine Chg.alloc ?_ _ | with_reducible refine Chg.setCell ?_ _ _ (by first | (simp; done) | omega | (simp; omega)) | with_reducible refine Chg.setBlock ?_ _ _ (by first | (simp; done) | omega | (simp; omega)) | exact Chg.refl _ _))) hb3); have HO3 := Lib.hid hO; have HTM := Lib.hid (show tm = w2.heap.size from htm); have hk4 := ob_step HB3.out (ob_step HB2.out HK.out); have z13 : w3.cell? ⟨w.heap.size, 13, none⟩ = some (.map (some a.am)) := cell_ob hk4 13; have z14 : w3.cell? ⟨w.heap.size, 14, none⟩ = some (.map (some a.tm)) := cell_ob hk4 14; have zf : ∀ i, w3.frozen? ⟨w.heap.size, i, none⟩ = false := (fun i => frozen_ob hk4 i); have lz4 := ob_lt hk4; have HK4 := Lib.hid hk4; clear hb3 hO htm hk4)
        | fail)
      all_goals (go_wp2_with fail)
      all_goals go_meet
      all_goals
        have s2 := HB2.out.size
        have s3 := HB3.out.size
        have hb := HBM.out
        have ht := HTM.out
        have lb := ob_lt HO.out
        have hcl : ∀ j, F1 j → j < wc.heap.size := fun j hj => HC.out.lt hj
        have htl := HT.out.lt
        have hpl := HP.out.lt
        refine ⟨bm, tm, by simp [go_sem, HK4.out, lz4, setAt], Chg.ob (S := fun j => j = w.heap.size) (by (repeat (first | with_reducible exact Chg.refl _ _ | with_reducible refine Chg.drewN ?_ _ | with_reducible refine Chg.drew ?_ | with_reducible refine Chg.alloc ?_ _ | with_reducible refine Chg.setCell ?_ _ _ (fun _ => rfl)))) (ob_step HB3.out HO.out) (by omega), Chg.ob (S := fun j => j = w.heap.size) (by (repeat (first | with_reducible exact Chg.refl _ _ | with_reducible refine Chg.drewN ?_ _ | with_reducible refine Chg.drew ?_ | with_reducible refine Chg.alloc ?_ _ | with_reducible refine Chg.setCell ?_ _ _ (fun _ => rfl)))) HO3.out (by omega), ⟨by omega, fun j hj => by have := hcl j hj; omega, by omega, by omega, by omega, by omega, by omega⟩, Chg.trans (S := fun j => j = w.heap.size) (S' := fun j => j = w.heap.size) (Chg.of_below (below_trans HB2.out HB3.out)) (by (repeat (first | with_reducible exact Chg.refl _ _ | with_reducible refine Chg.drewN ?_ _ | with_reducible refine Chg.drew ?_ | with_reducible refine Chg.alloc ?_ _ | with_reducible refine Chg.setCell ?_ _ _ (fun _ => rfl)))) (fun _ _ h => h)⟩
    case rest =>
      obtain ⟨bm, tm, hk, hA, hT2, ⟨hbt, hcl, hbb⟩, hcg⟩ := hcut
      go_wp2_with fail
      go_ret
      have n12 := HN12.out
      have hf1 := HF1.out
      have hs0 := HB.out.size
      refine ⟨⟨w.heap.size, p1, p2, ab, xb, p3, bm, tm⟩, F1, rfl, ⟨hk, HC.out.chg hcg (fun j hj e => by have := hf1 j hj; omega), HT.out.chg hcg (by omega) (by omega) (by omega), HP.out.chg hcg (by omega), ⟨oa, fa, hA, HOA.out, HIA.out⟩, ⟨ot, ft, hT2, HOT.out, HIT.out⟩, ?_, ?_, HNc.out.sane⟩, ?_, below_chg HB.out hcg (fun j hj e => by omega)⟩
      · obtain ⟨e1, e2⟩ := HT.out.ne1
        have e3 := HT.out.ne
        simp only [NAddr.list, List.nodup_cons, List.mem_cons, List.not_mem_nil, or_false, not_or]
        refine ⟨⟨?_, ?_, ?_, ?_, ?_, ?_⟩, ⟨?_, ?_, ?_, ?_, ?_⟩, ⟨?_, ?_, ?_, ?_⟩, ⟨?_, ?_, ?_⟩, ⟨?_, ?_⟩, ?_, ?_⟩
        all_goals first | omega | assumption | simp
      · intro j hj hf
        have := hf1 j hf
        simp only [NAddr.list, List.mem_cons, List.not_mem_nil, or_false] at hj
        have := hcl j hf
        omega
      · rintro j (hj | hj)
        · simp only [NAddr.list, List.mem_cons, List.not_mem_nil, or_false] at hj
          have := HB.out.size
          omega
        · have := hf1 j hj; omega
end
end Go.Proofs.YtchlioikkhnidaaGreat
