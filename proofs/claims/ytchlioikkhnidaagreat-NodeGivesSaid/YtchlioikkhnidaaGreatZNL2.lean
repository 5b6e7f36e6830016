/-
  NodeGives: while a request of its own is active, for an operation that it waits for, a node gives nothing of that block to who asks, whatever the policy advises. No condition.
-/
import Derived.Test.YtchlioikkhnidaaGreatMN13
set_option linter.unusedVariables false
set_option linter.unusedSimpArgs false
namespace Go.Proofs.YtchlioikkhnidaaGreat
open Go.RowKit Go.Sort Go.ChangeShapes Go.WideShapes Go.ChangeAt
open Go.ChangeMaps (setBlock)
set_option linter.unusedVariables false
set_option linter.unusedSimpArgs false
set_option maxHeartbeats 8000000 in
set_option maxRecDepth 20000 in
theorem nodeGives_walk (c : Config) (hc : c.ok) (op : Op) (ho : op.ok) (l : List Act15) (v : Value) (w : World) (hsl : SliceIs w 18 v (l.map Act15.cells)) (hok : ∀ d ∈ l, d.ok) :
    Calls Tryz.prog 3 #[c.val, op.val, v] w fun e w' => e = .returned (.bool true) ∧ Below w.heap.size w w' := by
  have HSL := Lib.hid hsl
  obtain ⟨A, cap, rfl, h1, h2, h3⟩ := hsl
  simp only [List.length_map] at h1 h2 h3 HSL ⊢
  have H3 := Lib.hid h3
  clear h3 hok ho hc
  by_cases hf : c.Fine ∧ l.length ≤ 200
  · have HF := Lib.hid hf.1
    have HMY := Lib.hid (fun V => made15_yes c 0 A l.length cap V hf.1 (by have := hf.1.nodes; omega) hf.2)
    simp only [Config.val, Config.cells, Op.val, Op.cells] at HMY ⊢
    clear hf
    go_enter Tryz.func3, Tryz.ntmps3
    go_wp2_with fail
    refine (HMY.out _).mono ?_
    rintro e w1 ⟨a, FC, m, wm, rfl, hN, _, _, _, _⟩
    have oC : cfgOb w1 w.heap.size c := ob_step hN.below (by simp [go_sem])
    have oO : opOb w1 (w.heap.size + 1) op := ob_step hN.below (by simp [go_sem])
    have HLOW := Lib.hid (show ∀ j, nFp a FC j → w.heap.size + 2 ≤ j from fun j hj => by have := hN.low j hj; simp at this; omega)
    have HN1 := Lib.hid (show Nd0 w w1 a (Node.new c 0) FC from hN.base (Chg.below (by repeat (first | with_reducible exact Chg.refl _ _ | with_reducible exact chg0 | with_reducible refine Chg.drewN ?_ _ | with_reducible refine Chg.drew ?_ | with_reducible refine Chg.alloc ?_ _ | with_reducible refine Chg.setCell ?_ _ _ (by first | (simp; done) | omega | (simp; omega)) | with_reducible refine Chg.setBlock ?_ _ _ (by first | (simp; done) | omega | (simp; omega)) | exact Chg.refl _ _))))
    have OC := Lib.hid oC
    have OO := Lib.hid oO
    clear hN oC oO HMY
    go_wp2_with fail
    refine (ndAwake_calls _).mono ?_
    rintro e w2 ⟨rfl, hb2⟩
    have hb12 : Below w1.heap.size w1 w2 := below_trans (Chg.below (by repeat (first | with_reducible exact Chg.refl _ _ | with_reducible exact chg0 | with_reducible refine Chg.drewN ?_ _ | with_reducible refine Chg.drew ?_ | with_reducible refine Chg.alloc ?_ _ | with_reducible refine Chg.setCell ?_ _ _ (by first | (simp; done) | omega | (simp; omega)) | with_reducible refine Chg.setBlock ?_ _ _ (by first | (simp; done) | omega | (simp; omega)) | exact Chg.refl _ _))) hb2
    have HN2 := Lib.hid (HN1.out.same hb12)
    have oC : cfgOb w2 w.heap.size c := ob_step hb12 OC.out
    have oO : opOb w2 (w.heap.size + 1) op := ob_step hb12 OO.out
    obtain ⟨c0, c1, c2, c3, c4, c5, c6, c7, c8, cf, cl⟩ := ob_cells9 oC
    obtain ⟨p0, p1, p2, pf⟩ := ob_cells3 oO
    have lo := ob_lt oO
    have OC2 := Lib.hid oC
    have OO2 := Lib.hid oO
    clear hb2 hb12 oC oO OC OO HN1
    by_cases q1 : op.block < 0
    · have q1' : decide (op.block < 0) = true := by simpa using q1
      clear q1
      go_wp2_with fail
      refine (ndAwake_calls _).mono ?_
      rintro e w4 ⟨rfl, hb4⟩
      go_wp2_with fail
      go_ret
      exact ⟨rfl, below_trans HN2.out.below (below_trans (Chg.below (by repeat (first | with_reducible exact Chg.refl _ _ | with_reducible exact chg0 | with_reducible refine Chg.drewN ?_ _ | with_reducible refine Chg.drew ?_ | with_reducible refine Chg.alloc ?_ _ | with_reducible refine Chg.setCell ?_ _ _ (by first | (simp; done) | omega | (simp; omega)) | with_reducible refine Chg.setBlock ?_ _ _ (by first | (simp; done) | omega | (simp; omega)) | exact Chg.refl _ _))) hb4)⟩
    have q1' : decide (op.block < 0) = false := by simpa using q1
    by_cases q2 : c.blocks ≤ op.block
    · have q2' : decide (c.blocks ≤ op.block) = true := by simpa using q2
      clear q1 q2
      go_wp2_with fail
      refine (ndAwake_calls _).mono ?_
      rintro e w4 ⟨rfl, hb4⟩
      go_wp2_with fail
      go_ret
      exact ⟨rfl, below_trans HN2.out.below (below_trans (Chg.below (by repeat (first | with_reducible exact Chg.refl _ _ | with_reducible exact chg0 | with_reducible refine Chg.drewN ?_ _ | with_reducible refine Chg.drew ?_ | with_reducible refine Chg.alloc ?_ _ | with_reducible refine Chg.setCell ?_ _ _ (by first | (simp; done) | omega | (simp; omega)) | with_reducible refine Chg.setBlock ?_ _ _ (by first | (simp; done) | omega | (simp; omega)) | exact Chg.refl _ _))) hb4)⟩
    have q2' : decide (c.blocks ≤ op.block) = false := by simpa using q2
    have HB := Lib.hid (show 0 ≤ op.block ∧ op.block < c.blocks from ⟨by omega, by omega⟩)
    clear q1 q2
    by_cases q3 : c.tokens < 2
    · have q3' : decide (c.tokens < 2) = true := by simpa using q3
      clear q3
      go_wp2_with fail
      refine (ndAwake_calls _).mono ?_
      rintro e w4 ⟨rfl, hb4⟩
      go_wp2_with fail
      go_ret
      exact ⟨rfl, below_trans HN2.out.below (below_trans (Chg.below (by repeat (first | with_reducible exact Chg.refl _ _ | with_reducible exact chg0 | with_reducible refine Chg.drewN ?_ _ | with_reducible refine Chg.drew ?_ | with_reducible refine Chg.alloc ?_ _ | with_reducible refine Chg.setCell ?_ _ _ (by first | (simp; done) | omega | (simp; omega)) | with_reducible refine Chg.setBlock ?_ _ _ (by first | (simp; done) | omega | (simp; omega)) | exact Chg.refl _ _))) hb4)⟩
    have q3' : decide (c.tokens < 2) = false := by simpa using q3
    clear q3
    obtain ⟨n1, n2, n3, L1, g1, g2, g3, g4, g5, g6, t1, t2, t3⟩ := gives_all HF.out HB.out
    have HI := Lib.hid (fun (V : World) (hV : NodeIn V a (Node.new c 0) FC) => NodeIssue_calls op ⟨0, 0, 0⟩ hV (by simp [Node.new, Proc.new]))
    rw [g1] at HI
    have G2 := Lib.hid g2
    have G3 := Lib.hid g3
    have G4 := Lib.hid g4
    have G5 := Lib.hid g5
    have G6 := Lib.hid g6
    have T1 := Lib.hid t1
    have T2 := Lib.hid t2
    have T3 := Lib.hid t3
    clear g1 g2 g3 g4 g5 g6 t1 t2 t3
    simp only [Op.val, Op.cells, Draws.val, Draws.cells] at HI
    go_wp2_with fail
    refine (HI.out _ (HN2.out.same (Chg.below (by repeat (first | with_reducible exact Chg.refl _ _ | with_reducible exact chg0 | with_reducible refine Chg.drewN ?_ _ | with_reducible refine Chg.drew ?_ | with_reducible refine Chg.alloc ?_ _ | with_reducible refine Chg.setCell ?_ _ _ (by first | (simp; done) | omega | (simp; omega)) | with_reducible refine Chg.setBlock ?_ _ _ (by first | (simp; done) | omega | (simp; omega)) | exact Chg.refl _ _)))).here).mono ?_
    rintro e w4 ⟨FC4, u1, u2, rfl, hs4⟩
    have hm4 := hs4.moves
    obtain ⟨a0, n0⟩ := hm4.aside (Chg.ob (S := fun _ => False) (by repeat (first | with_reducible exact Chg.refl _ _ | with_reducible exact chg0 | with_reducible refine Chg.drewN ?_ _ | with_reducible refine Chg.drew ?_ | with_reducible refine Chg.alloc ?_ _ | with_reducible refine Chg.setCell ?_ _ _ (by first | (simp; done) | omega | (simp; omega)) | with_reducible refine Chg.setBlock ?_ _ _ (by first | (simp; done) | omega | (simp; omega)) | exact Chg.refl _ _)) OC2.out (fun h => h)) (fun hf => by have := HLOW.out _ hf; omega)
    obtain ⟨a1, n1⟩ := hm4.aside (Chg.ob (S := fun _ => False) (by repeat (first | with_reducible exact Chg.refl _ _ | with_reducible exact chg0 | with_reducible refine Chg.drewN ?_ _ | with_reducible refine Chg.drew ?_ | with_reducible refine Chg.alloc ?_ _ | with_reducible refine Chg.setCell ?_ _ _ (by first | (simp; done) | omega | (simp; omega)) | with_reducible refine Chg.setBlock ?_ _ _ (by first | (simp; done) | omega | (simp; omega)) | exact Chg.refl _ _)) OO2.out (fun h => h)) (fun hf => by have := HLOW.out _ hf; omega)
    have HN4 := Lib.hid ((HN2.out.same (Chg.below (by repeat (first | with_reducible exact Chg.refl _ _ | with_reducible exact chg0 | with_reducible refine Chg.drewN ?_ _ | with_reducible refine Chg.drew ?_ | with_reducible refine Chg.alloc ?_ _ | with_reducible refine Chg.setCell ?_ _ _ (by first | (simp; done) | omega | (simp; omega)) | with_reducible refine Chg.setBlock ?_ _ _ (by first | (simp; done) | omega | (simp; omega)) | exact Chg.refl _ _)))).sent hs4)
    have A0 := Lib.hid (And.intro (show cfgOb w4 w.heap.size c from a0) n0)
    have A1 := Lib.hid (And.intro (show opOb w4 (w.heap.size + 1) op from a1) n1)
    clear hs4 hm4 a0 a1 n0 n1 c0 c1 c2 c3 c4 c5 c6 c7 c8 cf cl p0 p1 p2 pf lo HI OC2 OO2 HN2
    obtain ⟨c0, c1, c2, c3, c4, c5, c6, c7, c8, cf, cl⟩ := ob_cells9 A0.out.1
    obtain ⟨p0, p1, p2, pf⟩ := ob_cells3 A1.out.1
    have lo := ob_lt A1.out.1
    have HT := Lib.hid (fun (V : World) (hV : NodeIn V a n1 FC4) => NodeTake_calls (givesA c op) ⟨0, 0, 0⟩ hV T1.out)
    rw [G2.out] at HT
    simp only [givesA, Letter.val, Letter.cells, Draws.val, Draws.cells, Bundle.none] at HT
    go_wp2_with fail
    refine (HT.out _ (HN4.out.same (Chg.below (by repeat (first | with_reducible exact Chg.refl _ _ | with_reducible exact chg0 | with_reducible refine Chg.drewN ?_ _ | with_reducible refine Chg.drew ?_ | with_reducible refine Chg.alloc ?_ _ | with_reducible refine Chg.setCell ?_ _ _ (by first | (simp; done) | omega | (simp; omega)) | with_reducible refine Chg.setBlock ?_ _ _ (by first | (simp; done) | omega | (simp; omega)) | exact Chg.refl _ _)))).here).mono ?_
    rintro e w5 ⟨FC5, u1, u2, rfl, hs5⟩
    have hm5 := hs5.moves
    obtain ⟨a0, n0⟩ := hm5.aside (Chg.ob (S := fun _ => False) (by repeat (first | with_reducible exact Chg.refl _ _ | with_reducible exact chg0 | with_reducible refine Chg.drewN ?_ _ | with_reducible refine Chg.drew ?_ | with_reducible refine Chg.alloc ?_ _ | with_reducible refine Chg.setCell ?_ _ _ (by first | (simp; done) | omega | (simp; omega)) | with_reducible refine Chg.setBlock ?_ _ _ (by first | (simp; done) | omega | (simp; omega)) | exact Chg.refl _ _)) A0.out.1 (fun h => h)) A0.out.2
    obtain ⟨a1, n1⟩ := hm5.aside (Chg.ob (S := fun _ => False) (by repeat (first | with_reducible exact Chg.refl _ _ | with_reducible exact chg0 | with_reducible refine Chg.drewN ?_ _ | with_reducible refine Chg.drew ?_ | with_reducible refine Chg.alloc ?_ _ | with_reducible refine Chg.setCell ?_ _ _ (by first | (simp; done) | omega | (simp; omega)) | with_reducible refine Chg.setBlock ?_ _ _ (by first | (simp; done) | omega | (simp; omega)) | exact Chg.refl _ _)) A1.out.1 (fun h => h)) A1.out.2
    have HN5 := Lib.hid ((HN4.out.same (Chg.below (by repeat (first | with_reducible exact Chg.refl _ _ | with_reducible exact chg0 | with_reducible refine Chg.drewN ?_ _ | with_reducible refine Chg.drew ?_ | with_reducible refine Chg.alloc ?_ _ | with_reducible refine Chg.setCell ?_ _ _ (by first | (simp; done) | omega | (simp; omega)) | with_reducible refine Chg.setBlock ?_ _ _ (by first | (simp; done) | omega | (simp; omega)) | exact Chg.refl _ _)))).sent hs5)
    have B0 := Lib.hid (And.intro (show cfgOb w5 w.heap.size c from a0) n0)
    have B1 := Lib.hid (And.intro (show opOb w5 (w.heap.size + 1) op from a1) n1)
    clear hs5 hm5 a0 a1 n0 n1 c0 c1 c2 c3 c4 c5 c6 c7 c8 cf cl p0 p1 p2 pf lo HT A0 A1 HN4
    obtain ⟨c0, c1, c2, c3, c4, c5, c6, c7, c8, cf, cl⟩ := ob_cells9 B0.out.1
    obtain ⟨p0, p1, p2, pf⟩ := ob_cells3 B1.out.1
    have lo := ob_lt B1.out.1
    have HT := Lib.hid (fun (V : World) (hV : NodeIn V a n2 FC5) => NodeTake_calls (givesT c op) ⟨0, 0, 0⟩ hV T2.out)
    rw [G3.out] at HT
    simp only [givesT, givesB, Letter.val, Letter.cells, Draws.val, Draws.cells, Bundle.none] at HT
    go_wp2_with fail
    refine (HT.out _ (HN5.out.same (Chg.below (by repeat (first | with_reducible exact Chg.refl _ _ | with_reducible exact chg0 | with_reducible refine Chg.drewN ?_ _ | with_reducible refine Chg.drew ?_ | with_reducible refine Chg.alloc ?_ _ | with_reducible refine Chg.setCell ?_ _ _ (by first | (simp; done) | omega | (simp; omega)) | with_reducible refine Chg.setBlock ?_ _ _ (by first | (simp; done) | omega | (simp; omega)) | exact Chg.refl _ _)))).here).mono ?_
    rintro e w6 ⟨FC6, u1, u2, rfl, hs6⟩
    have hm6 := hs6.moves
    obtain ⟨a0, n0⟩ := hm6.aside (Chg.ob (S := fun _ => False) (by repeat (first | with_reducible exact Chg.refl _ _ | with_reducible exact chg0 | with_reducible refine Chg.drewN ?_ _ | with_reducible refine Chg.drew ?_ | with_reducible refine Chg.alloc ?_ _ | with_reducible refine Chg.setCell ?_ _ _ (by first | (simp; done) | omega | (simp; omega)) | with_reducible refine Chg.setBlock ?_ _ _ (by first | (simp; done) | omega | (simp; omega)) | exact Chg.refl _ _)) B0.out.1 (fun h => h)) B0.out.2
    obtain ⟨a1, n1⟩ := hm6.aside (Chg.ob (S := fun _ => False) (by repeat (first | with_reducible exact Chg.refl _ _ | with_reducible exact chg0 | with_reducible refine Chg.drewN ?_ _ | with_reducible refine Chg.drew ?_ | with_reducible refine Chg.alloc ?_ _ | with_reducible refine Chg.setCell ?_ _ _ (by first | (simp; done) | omega | (simp; omega)) | with_reducible refine Chg.setBlock ?_ _ _ (by first | (simp; done) | omega | (simp; omega)) | exact Chg.refl _ _)) B1.out.1 (fun h => h)) B1.out.2
    have HN6 := Lib.hid ((HN5.out.same (Chg.below (by repeat (first | with_reducible exact Chg.refl _ _ | with_reducible exact chg0 | with_reducible refine Chg.drewN ?_ _ | with_reducible refine Chg.drew ?_ | with_reducible refine Chg.alloc ?_ _ | with_reducible refine Chg.setCell ?_ _ _ (by first | (simp; done) | omega | (simp; omega)) | with_reducible refine Chg.setBlock ?_ _ _ (by first | (simp; done) | omega | (simp; omega)) | exact Chg.refl _ _)))).sent hs6)
    have C0 := Lib.hid (And.intro (show cfgOb w6 w.heap.size c from a0) n0)
    have C1 := Lib.hid (And.intro (show opOb w6 (w.heap.size + 1) op from a1) n1)
    clear hs6 hm6 a0 a1 n0 n1 c0 c1 c2 c3 c4 c5 c6 c7 c8 cf cl p0 p1 p2 pf lo HT B0 B1 HN5 q1' q2' q3'
    go_wp2_with fail
    go_loopg [68] l.length (fun g i wx => ∃ (wr : World) (k : Nat) (F : Nat → Prop), wx = wr ∧ k ≤ l.length ∧ g = l.length - k ∧ i = .int .i64 k ∧ Nd0 w wr a n3 F ∧ (cfgOb wr w.heap.size c ∧ ¬ nFp a F w.heap.size) ∧ (opOb wr (w.heap.size + 1) op ∧ ¬ nFp a F (w.heap.size + 1)))
    case atStart => exact ⟨_, 0, FC6, rfl, Nat.zero_le _, rfl, rfl, HN6.out, C0.out, C1.out⟩
    case round =>
      obtain ⟨wr, k, F, rfl, hk, rfl, rfl, hN, hC, hO⟩ := hrel
      clear HN6 C0 C1
      have HN := Lib.hid hN
      have HC := Lib.hid hC
      have HO := Lib.hid hO
      clear hN hC hO
      by_cases hlt : k < l.length
      · obtain ⟨q, off, rfl, hrows⟩ := H3.out (by omega)
        have hrow := act15At hrows HN.out.below hlt
        generalize l[k] = d at hrow
        have HROW := Lib.hid hrow
        clear hrow hrows
        go_upto_region 9 with fail
        go_cut [11] (fun s11 wx => s11 = .pointer (some ⟨wr.heap.size, 0, none⟩) ∧ act15Ob wx wr.heap.size d ∧ Below wr.heap.size wr wx)
        case first =>
          have h18 : d.cells.toArray.size = 18 := rfl
          have hone : d.cells.toArray.all (·.oneCell') = true := all_oneCell_toArray (by intro v hv; simp only [Act15.cells, List.mem_cons, List.not_mem_nil, or_false] at hv; rcases hv with rfl | rfl | rfl | rfl | rfl | rfl | rfl | rfl | rfl | rfl | rfl | rfl | rfl | rfl | rfl | rfl | rfl | rfl <;> rfl)
          have hA' : ∀ V : World, Below wr.heap.size wr V → V.heap.size = wr.heap.size → True := fun _ _ _ => trivial
          clear hA'
          have HFIN := Lib.hid (fun W : World => show act15Ob (W.alloc (.cells d.cells.toArray 46)) W.heap.size d from ob_alloc_at _ _)
          have HR := HROW
          generalize d.cells = CS at HR h18 hone HFIN
          go_wp2_with (first | (refine wpList_load_row rfl 46 _ rfl q (off + k * 18) rfl CS HR.out (by kernel_rfl) (Eq.trans (by kernel_rfl : _ = some 18) (by simpa using h18.symm)) ?_) | (refine wpList_store_new rfl 46 _ _ rfl _ CS.toArray rfl rfl (Eq.trans (by kernel_rfl : _ = some 18) (by simpa using h18.symm)) (by simpa using h18.symm) hone ?_))
          go_meet
          exact ⟨rfl, HFIN.out _, Chg.below (by repeat (first | with_reducible exact Chg.refl _ _ | with_reducible exact chg0 | with_reducible refine Chg.drewN ?_ _ | with_reducible refine Chg.drew ?_ | with_reducible refine Chg.alloc ?_ _ | with_reducible refine Chg.setCell ?_ _ _ (by first | (simp; done) | omega | (simp; omega)) | with_reducible refine Chg.setBlock ?_ _ _ (by first | (simp; done) | omega | (simp; omega)) | exact Chg.refl _ _))⟩
        case rest =>
        obtain ⟨rfl, hA, hbA⟩ := hcut
        have HA := Lib.hid hA
        replace HC := Lib.hid (And.intro (show cfgOb wc w.heap.size c from ob_step hbA HC.out.1) HC.out.2)
        replace HO := Lib.hid (And.intro (show opOb wc (w.heap.size + 1) op from ob_step hbA HO.out.1) HO.out.2)
        replace HN := Lib.hid (HN.out.same hbA)
        obtain ⟨x2, x15, x16, x17⟩ : wc.cell? ⟨wr.heap.size, 2, none⟩ = some (.bool d.op.write) ∧ wc.cell? ⟨wr.heap.size, 15, none⟩ = some (.int .i64 d.draws.d0) ∧ wc.cell? ⟨wr.heap.size, 16, none⟩ = some (.int .i64 d.draws.d1) ∧ wc.cell? ⟨wr.heap.size, 17, none⟩ = some (.int .i64 d.draws.d2) := ⟨cell_ob hA 2, cell_ob hA 15, cell_ob hA 16, cell_ob hA 17⟩
        have lA := ob_lt hA
        clear hA hbA HROW
        obtain ⟨c0, c1, c2, c3, c4, c5, c6, c7, c8, cf, cl⟩ := ob_cells9 HC.out.1
        obtain ⟨p0, p1, p2, pf⟩ := ob_cells3 HO.out.1
        have lo := ob_lt HO.out.1
        have HT := Lib.hid (fun (V : World) (hV : NodeIn V a n3 F) => NodeTake_calls (givesQ op d.op.write) d.draws hV T3.out)
        rw [G4.out] at HT
        simp only [givesQ, Letter.val, Letter.cells, Draws.val, Draws.cells, Bundle.none] at HT
        go_upto_region 10 with fail
        go_cut [12] (fun s12 wx => ∃ F' B1 s1 v2 t, s12 = .pointer (some ⟨t, 0, none⟩) ∧ ob wx t = some (.cells #[.slice B1 0 s1, v2] 35 (0, 0)) ∧ Nd0 w wx a n3 F' ∧ (cfgOb wx w.heap.size c ∧ ¬ nFp a F' w.heap.size) ∧ (opOb wx (w.heap.size + 1) op ∧ ¬ nFp a F' (w.heap.size + 1)))
        case first =>
          go_wp2_with fail
          refine (HT.out _ (HN.out.same (Chg.below (by repeat (first | with_reducible exact Chg.refl _ _ | with_reducible exact chg0 | with_reducible refine Chg.drewN ?_ _ | with_reducible refine Chg.drew ?_ | with_reducible refine Chg.alloc ?_ _ | with_reducible refine Chg.setCell ?_ _ _ (by first | (simp; done) | omega | (simp; omega)) | with_reducible refine Chg.setBlock ?_ _ _ (by first | (simp; done) | omega | (simp; omega)) | exact Chg.refl _ _)))).here).mono ?_
          rintro e w7 ⟨FC7, u1, u2, rfl, hs7⟩
          have hm7 := hs7.moves
          obtain ⟨a0, n0⟩ := hm7.aside (Chg.ob (S := fun _ => False) (by repeat (first | with_reducible exact Chg.refl _ _ | with_reducible exact chg0 | with_reducible refine Chg.drewN ?_ _ | with_reducible refine Chg.drew ?_ | with_reducible refine Chg.alloc ?_ _ | with_reducible refine Chg.setCell ?_ _ _ (by first | (simp; done) | omega | (simp; omega)) | with_reducible refine Chg.setBlock ?_ _ _ (by first | (simp; done) | omega | (simp; omega)) | exact Chg.refl _ _)) HC.out.1 (fun h => h)) HC.out.2
          obtain ⟨a1, n1⟩ := hm7.aside (Chg.ob (S := fun _ => False) (by repeat (first | with_reducible exact Chg.refl _ _ | with_reducible exact chg0 | with_reducible refine Chg.drewN ?_ _ | with_reducible refine Chg.drew ?_ | with_reducible refine Chg.alloc ?_ _ | with_reducible refine Chg.setCell ?_ _ _ (by first | (simp; done) | omega | (simp; omega)) | with_reducible refine Chg.setBlock ?_ _ _ (by first | (simp; done) | omega | (simp; omega)) | exact Chg.refl _ _)) HO.out.1 (fun h => h)) HO.out.2
          have HN7 := Lib.hid ((HN.out.same (Chg.below (by repeat (first | with_reducible exact Chg.refl _ _ | with_reducible exact chg0 | with_reducible refine Chg.drewN ?_ _ | with_reducible refine Chg.drew ?_ | with_reducible refine Chg.alloc ?_ _ | with_reducible refine Chg.setCell ?_ _ _ (by first | (simp; done) | omega | (simp; omega)) | with_reducible refine Chg.setBlock ?_ _ _ (by first | (simp; done) | omega | (simp; omega)) | exact Chg.refl _ _)))).sent hs7)
          have D0 := Lib.hid (And.intro (show cfgOb w7 w.heap.size c from a0) n0)
          have D1 := Lib.hid (And.intro (show opOb w7 (w.heap.size + 1) op from a1) n1)
          obtain ⟨B1, m1, s1, e1⟩ := hs7.letters.shape
          obtain ⟨B2, m2, s2, e2⟩ := hs7.done.shape
          subst e1
          subst e2
          have hz1 : m1 = 0 := by
            obtain ⟨_, _, e, _⟩ := hs7.letters.slice
            injection e
          subst hz1
          clear hs7 hm7 a0 a1 n0 n1
          go_wp2_with fail
          go_meet
          exact ⟨FC7, B1, s1, _, _, rfl, ob_alloc_at _ _, HN7.out.same (Chg.below (by repeat (first | with_reducible exact Chg.refl _ _ | with_reducible exact chg0 | with_reducible refine Chg.drewN ?_ _ | with_reducible refine Chg.drew ?_ | with_reducible refine Chg.alloc ?_ _ | with_reducible refine Chg.setCell ?_ _ _ (by first | (simp; done) | omega | (simp; omega)) | with_reducible refine Chg.setBlock ?_ _ _ (by first | (simp; done) | omega | (simp; omega)) | exact Chg.refl _ _))), ⟨Chg.ob (S := fun _ => False) (by repeat (first | with_reducible exact Chg.refl _ _ | with_reducible exact chg0 | with_reducible refine Chg.drewN ?_ _ | with_reducible refine Chg.drew ?_ | with_reducible refine Chg.alloc ?_ _ | with_reducible refine Chg.setCell ?_ _ _ (by first | (simp; done) | omega | (simp; omega)) | with_reducible refine Chg.setBlock ?_ _ _ (by first | (simp; done) | omega | (simp; omega)) | exact Chg.refl _ _)) D0.out.1 (fun h => h), D0.out.2⟩, ⟨Chg.ob (S := fun _ => False) (by repeat (first | with_reducible exact Chg.refl _ _ | with_reducible exact chg0 | with_reducible refine Chg.drewN ?_ _ | with_reducible refine Chg.drew ?_ | with_reducible refine Chg.alloc ?_ _ | with_reducible refine Chg.setCell ?_ _ _ (by first | (simp; done) | omega | (simp; omega)) | with_reducible refine Chg.setBlock ?_ _ _ (by first | (simp; done) | omega | (simp; omega)) | exact Chg.refl _ _)) D1.out.1 (fun h => h), D1.out.2⟩⟩
        case rest =>
        obtain ⟨F7, B1, s1, v2, t, rfl, hq, hN7, hC7, hO7⟩ := hcut
        have HN7 := Lib.hid hN7
        have D0 := Lib.hid hC7
        have D1 := Lib.hid hO7
        have k0 : wc.cell? ⟨t, 0, none⟩ = some (.slice B1 0 s1) := cell_ob hq 0
        have lq := ob_lt hq
        clear hq hN7 hC7 hO7 c0 c1 c2 c3 c4 c5 c6 c7 c8 cf cl p0 p1 p2 pf lo HT HC HO HN x2 x15 x16 x17 lA
        obtain ⟨c0, c1, c2, c3, c4, c5, c6, c7, c8, cf, cl⟩ := ob_cells9 D0.out.1
        go_upto_region 11 with fail
        go_cut [90] (fun s90 wx => s90 = .bool false ∧ wx = wc)
        case first =>
          by_cases qn : 1 < c.nodes
          · have qn' : decide (1 < c.nodes) = true := by simpa using qn
            clear qn
            go_wp2_with fail
            go_meet
            exact ⟨rfl, rfl⟩
          · have qn' : decide (1 < c.nodes) = false := by simpa using qn
            clear qn
            go_wp2_with fail
            go_meet
            exact ⟨rfl, rfl⟩
        case rest =>
        obtain ⟨rfl, rfl⟩ := hcut
        clear c0 c1 c2 c3 c4 c5 c6 c7 c8 cf cl k0 lq
        go_wp2_with fail
        go_roundg (l.length - (k + 1))
        case rel => exact ⟨_, k + 1, F7, rfl, by omega, rfl, by go_num, HN7.out, D0.out, D1.out⟩
        case measure => omega
      · have HP := Lib.hid (fun (V : World) (hV : NodeIn V a n3 F) => NodePlace_calls hV)
        rw [G5.out, G6.out] at HP
        go_wp2_with fail
        refine (HP.out _ (HN.out.same (Chg.below (by repeat (first | with_reducible exact Chg.refl _ _ | with_reducible exact chg0 | with_reducible refine Chg.drewN ?_ _ | with_reducible refine Chg.drew ?_ | with_reducible refine Chg.alloc ?_ _ | with_reducible refine Chg.setCell ?_ _ _ (by first | (simp; done) | omega | (simp; omega)) | with_reducible refine Chg.setBlock ?_ _ _ (by first | (simp; done) | omega | (simp; omega)) | exact Chg.refl _ _)))).here).mono ?_
        rintro e w7 ⟨u1, u2, rfl, hl7, ha7, hb7⟩
        have HB7 := Lib.hid (below_trans HN.out.below (below_trans (Chg.below (w := wr) (by repeat (first | with_reducible exact Chg.refl _ _ | with_reducible exact chg0 | with_reducible refine Chg.drewN ?_ _ | with_reducible refine Chg.drew ?_ | with_reducible refine Chg.alloc ?_ _ | with_reducible refine Chg.setCell ?_ _ _ (by first | (simp; done) | omega | (simp; omega)) | with_reducible refine Chg.setBlock ?_ _ _ (by first | (simp; done) | omega | (simp; omega)) | exact Chg.refl _ _))) hb7))
        obtain ⟨A5, s5, e7, _, _, hat⟩ := sliceOf (cells := Line.cells) (l := [⟨op.block, givesB⟩]) hl7.1.slice
        obtain ⟨qb, qo, e8, hr⟩ := hat (by simp)
        obtain ⟨A6, n6, s6, e9⟩ := ha7.1.shape
        subst e8
        subst e7
        subst e9
        obtain ⟨y0, y1, y2, y3, y4⟩ := Line.range (hr 0 (by simp))
        simp only [givesB, List.length_singleton, List.getElem_cons_zero, Nat.zero_mul, Nat.add_zero] at y0 y1 y2 y3 y4
        have ly := World.block_lt_of_cell? w7 _ y1
        simp only at ly
        clear hl7 ha7 hb7 hr hat
        go_wp2_with fail
        go_ret
        exact ⟨by simp, below_trans HB7.out (Chg.below (by repeat (first | with_reducible exact Chg.refl _ _ | with_reducible exact chg0 | with_reducible refine Chg.drewN ?_ _ | with_reducible refine Chg.drew ?_ | with_reducible refine Chg.alloc ?_ _ | with_reducible refine Chg.setCell ?_ _ _ (by first | (simp; done) | omega | (simp; omega)) | with_reducible refine Chg.setBlock ?_ _ _ (by first | (simp; done) | omega | (simp; omega)) | exact Chg.refl _ _)))⟩
  · have HMN := Lib.hid (fun V => made15_no c 0 A l.length cap V (fun h => hf ⟨h.1, h.2.2⟩))
    simp only [Config.val, Config.cells, Op.val, Op.cells] at HMN ⊢
    clear hf
    go_enter Tryz.func3, Tryz.ntmps3
    go_wp2_with fail
    refine (HMN.out _).mono ?_
    rintro e w1 ⟨rfl, hb1⟩
    have HB1 := Lib.hid (show Below w.heap.size w w1 from below_trans (Chg.below (by repeat (first | with_reducible exact Chg.refl _ _ | with_reducible exact chg0 | with_reducible refine Chg.drewN ?_ _ | with_reducible refine Chg.drew ?_ | with_reducible refine Chg.alloc ?_ _ | with_reducible refine Chg.setCell ?_ _ _ (by first | (simp; done) | omega | (simp; omega)) | with_reducible refine Chg.setBlock ?_ _ _ (by first | (simp; done) | omega | (simp; omega)) | exact Chg.refl _ _))) hb1)
    clear hb1
    go_wp2_with fail
    refine (ndAwake_calls _).mono ?_
    rintro e w2 ⟨rfl, hb2⟩
    go_wp2_with fail
    refine (ndAwake_calls _).mono ?_
    rintro e w3 ⟨rfl, hb3⟩
    go_wp2_with fail
    go_ret
    exact ⟨rfl, below_trans HB1.out (below_trans (below_trans (Chg.below (by repeat (first | with_reducible exact Chg.refl _ _ | with_reducible exact chg0 | with_reducible refine Chg.drewN ?_ _ | with_reducible refine Chg.drew ?_ | with_reducible refine Chg.alloc ?_ _ | with_reducible refine Chg.setCell ?_ _ _ (by first | (simp; done) | omega | (simp; omega)) | with_reducible refine Chg.setBlock ?_ _ _ (by first | (simp; done) | omega | (simp; omega)) | exact Chg.refl _ _))) hb2) (below_trans (Chg.below (by repeat (first | with_reducible exact Chg.refl _ _ | with_reducible exact chg0 | with_reducible refine Chg.drewN ?_ _ | with_reducible refine Chg.drew ?_ | with_reducible refine Chg.alloc ?_ _ | with_reducible refine Chg.setCell ?_ _ _ (by first | (simp; done) | omega | (simp; omega)) | with_reducible refine Chg.setBlock ?_ _ _ (by first | (simp; done) | omega | (simp; omega)) | exact Chg.refl _ _))) hb3))⟩
set_option maxRecDepth 100000 in
theorem nodeGives_lifted (os : Os) (started : os.Started) (H : Type) (enc : TypeId × Value → H) :
    ReturnsInHanded {} Tryz.checked os 3 .any (Rows.nodeGivesSpec.pre6 enc Tryz.prog Tryz.f3 Rows.nodeGivesRow.domain false) (Rows.nodeGivesSpec.post enc Tryz.prog Tryz.f3 false true false false) := by
  refine returnsInHanded_of_change (C := Tryz.checked) law_own started (by kernel_rfl) Tryz.func3
    (ChangeSpec.witness6 (enc := enc) (C := Tryz.checked) false ⟨#[], #[.agg #[.int .i64 0, .int .i64 0, .int .i64 0, .int .i64 0, .int .i64 0, .int .i64 0, .int .i64 0, .int .i64 0, .int .i64 0], .agg #[.int .i64 0, .bool false, .int .i64 0], .slice none 0 0], []⟩ 8 (by kernel_rfl) (by kernel_rfl) (by kernel_rfl) (by kernel_rfl)) ?_
  intro W base args ds gs before hval0 hW hcnd _
  have hval : ∀ (j : Nat) t v, Tryz.f3.params[j]? = some t → args[j]? = some v → Value.okWide Tryz.prog W .any base t v := hval0
  have hW' := hW
  obtain ⟨p, q, hA0, hV, rfl, hfz, hnd⟩ := hW
  have hA : DataW.TrodAll enc Tryz.prog W 0 (fun _ => true) true Tryz.f3.params.toList args.toList ds p := hA0
  rw [Tryz.params3] at hA hval
  obtain ⟨v0, vs0, d0, ds0, p0, q0, hargs, rfl, rfl, h0, r0⟩ := trodAll_cons hA
  obtain ⟨v1, vs1, d1, ds1, p1, q1, rfl, rfl, rfl, h1, r1⟩ := trodAll_cons r0
  obtain ⟨v2, vs2, d2, ds2, p2, q2, rfl, rfl, rfl, h2, r2⟩ := trodAll_cons r1
  obtain ⟨rfl, rfl, rfl⟩ := trodAll_nil r2
  obtain rfl : args = #[v0, v1, v2] := by cases args; simp_all
  obtain ⟨rfl, rfl⟩ := trodVars_none hV
  have k0 := h0
  have lt0 : ∀ x ∈ p0, x.block < W.heap.size := by obtain ⟨m, hm⟩ := k0; exact DataW.trod_lt m _ _ _ hm
  obtain ⟨f0, g0⟩ := h0
  obtain ⟨cs0, rfl, _⟩ := okWide_struct Tryz.underlying23 (hval 0 23 v0 rfl rfl)
  obtain ⟨x0, e0, o0⟩ := Config.of_trod g0
  obtain rfl : cs0 = x0.cells.toArray := by simp only [Value.cells] at e0; rw [← e0]
  have k1 := h1
  have lt1 : ∀ x ∈ p1, x.block < W.heap.size := by obtain ⟨m, hm⟩ := k1; exact DataW.trod_lt m _ _ _ hm
  obtain ⟨f1, g1⟩ := h1
  obtain ⟨cs1, rfl, _⟩ := okWide_struct Tryz.underlying25 (hval 1 25 v1 rfl rfl)
  obtain ⟨x1, e1, o1⟩ := Op.of_trod g1
  obtain rfl : cs1 = x1.cells.toArray := by simp only [Value.cells] at e1; rw [← e1]
  have k2 := h2
  have lt2 : ∀ x ∈ p2, x.block < W.heap.size := by obtain ⟨m, hm⟩ := k2; exact DataW.trod_lt m _ _ _ hm
  obtain ⟨f2, g2⟩ := h2
  obtain ⟨l2, s2, o2⟩ := slice_of_trod (sz := 18) (cells := Act15.cells) (ok := Act15.ok) Tryz.underlying26 (by kernel_rfl) (by decide) (fun _ => rfl) Act15.of_trod g2 (okWide_slice Tryz.underlying26 (hval 2 26 v2 rfl rfl))
  clear hA0 hval0
  refine (nodeGives_walk x0 o0 x1 o1 l2 v2 W s2 o2).mono fun e W' ⟨he, bel⟩ => ?_
  subst he
  exact ⟨_, rfl, _, _, _, [], _, [], hW', trodAll_mk1 (shut_bool Tryz.underlying4 _), (trodAll_cons_mk (Below.trod law_laidOut (by kernel_rfl) (of_decide_eq_true (by kernel_rfl)) k0 bel lt0) (trodAll_cons_mk (Below.trod law_laidOut (by kernel_rfl) (of_decide_eq_true (by kernel_rfl)) k1 bel lt1) (trodAll_cons_mk (Below.trod law_laidOut (by kernel_rfl) (of_decide_eq_true (by kernel_rfl)) k2 bel lt2) trodAll_mk0))), rfl, bel.frame _, fun h => by cases h⟩

theorem nodeGives_holds : Rows.NodeGivesSaid :=
  OpenClaim.holds_of_wide 3 Tryz.f3 rfl rfl rfl rfl rfl rfl rfl ⟨rfl, rfl, rfl, rfl, rfl⟩ rfl rfl rfl rfl rfl (by kernel_rfl) Tryz.func3 (by kernel_rfl)
    (of_decide_eq_true (by kernel_rfl)) (by unfold Func.isWrapper; first | (rw [if_pos (by decide +kernel)]; kernel_rfl) | (rw [if_neg (by decide +kernel)]; exact ⟨rfl, rfl⟩))
    (fun os started H enc _ => nodeGives_lifted os started H enc)
end Go.Proofs.YtchlioikkhnidaaGreat
