/-
  The program's node: a request is active, or over.
-/
import Derived.Test.YtchlioikkhnidaaGreatMN7
set_option linter.unusedVariables false
set_option linter.unusedSimpArgs false
namespace Go.Proofs.YtchlioikkhnidaaGreat
open Go.RowKit Go.Sort Go.ChangeShapes Go.WideShapes Go.ChangeAt
open Go.ChangeMaps (setBlock)
set_option linter.unusedVariables false
set_option linter.unusedSimpArgs false
section
variable {w w' w'' : World} {a : NAddr} {q : Nat} {n n' : Node} {L L' : List Letter} {D D' : List Done} {F F' FC : Nat → Prop} {v1 v2 : Value}
theorem Table.activate_no {t : Table} {b : Active} (h : (t.activate b).2 = false) : (t.activate b).1 = t := by
  unfold Table.activate at h ⊢
  split
  · rfl
  · rename_i h1; rw [if_neg h1] at h; cases h
theorem NO.tableL {t' : Table} (h : NO w a n FC q v1 v2 L D) (h1 : TableAt w' a.kp a.ab a.xb t') (hc : Chg (fun j => j = a.ab ∨ j = a.xb) w w') : NO w' a { n with table := t' } FC q v1 v2 L D ∧ Moves w w' (noFp a FC q v1 v2) (noFp a FC q v1 v2) := by
  obtain ⟨g1, g2⟩ := h.node.tableL h1 hc
  exact h.lift g1 g2

set_option maxHeartbeats 8000000 in
set_option maxRecDepth 20000 in
theorem activate_calls (l : Letter) (d : Draws) (h : Run w a q n L D F) (hl : L.length ≤ 900000) (hab : 0 ≤ l.block ∧ l.block < 64) (hb : (n.cache.tok l.block).count ≤ 1000000000000) :
    Calls Tryz.prog 39 #[.pointer (some ⟨a.p, 0, none⟩), l.val, d.val, .pointer (some ⟨q, 0, none⟩)] w fun e w' => e = .returned (.tuple #[]) ∧ ∃ F', Run w' a q (n.activate l).1 (L ++ (n.activate l).2) D F' ∧ Moves w w' F F' := by
  obtain ⟨FC, v1, v2, h, rfl⟩ := h
  have H := Lib.hid h
  have HF := Lib.hid h.lt
  have HB := Lib.hid hb
  have HAB := Lib.hid hab
  have hset : n.activate l = if (n.table.activate ⟨l.block, l.who, l.seq⟩).2 = false then (n, []) else if l.who = n.id then (if n.cpu.pinned = l.block then ({ n with table := (n.table.activate ⟨l.block, l.who, l.seq⟩).1 }, []) else Node.endL { n with table := (n.table.activate ⟨l.block, l.who, l.seq⟩).1 } l.block) else
      ({ n with table := (n.table.activate ⟨l.block, l.who, l.seq⟩).1, cache := (n.cache.take l.block (n.cache.tok l.block).count true true).1 }, tokL n.id l.who l.block (n.cache.take l.block (n.cache.tok l.block).count true true).2) := rfl
  have hno := Table.activate_no (t := n.table) (b := ⟨l.block, l.who, l.seq⟩)
  have HAct := Lib.hid (fun (V : World) (hV : TableAt V a.kp a.ab a.xb n.table) => Activate_calls ⟨l.block, l.who, l.seq⟩ hV hab)
  obtain ⟨r, hr⟩ : ∃ r, r = n.table.activate ⟨l.block, l.who, l.seq⟩ := ⟨_, rfl⟩
  rw [← hr] at hset hno HAct
  have HS := Lib.hid hset
  have HNO := Lib.hid hno
  clear h hset hb hab hno hr
  simp only [Letter.val, Letter.cells, Draws.val, Draws.cells]
  simp only [Active.val, Active.cells] at HAct
  go_enter Tryz.func39, Tryz.ntmps39
  go_wp2_with fail
  obtain ⟨W, hW⟩ : ∃ W, W = ((w.alloc (Obj.cells #[Value.int IntKind.i64 l.kind, Value.int IntKind.i64 l.src, Value.int IntKind.i64 l.dst, Value.int IntKind.i64 l.block, Value.int IntKind.i64 l.seq, Value.int IntKind.i64 l.who, Value.bool l.write, Value.int IntKind.i64 l.tokens.count, Value.bool l.tokens.owner, Value.bool l.tokens.has, Value.int IntKind.i64 l.tokens.data] 44)).alloc (Obj.cells #[Value.int IntKind.i64 d.d0, Value.int IntKind.i64 d.d1, Value.int IntKind.i64 d.d2] 39)) := ⟨_, rfl⟩
  rw [← hW]
  have bW : Below w.heap.size w W := by rw [hW]; exact Chg.below (by repeat (first | with_reducible exact Chg.refl _ _ | with_reducible exact chg0 | with_reducible refine Chg.drewN ?_ _ | with_reducible refine Chg.drew ?_ | with_reducible refine Chg.alloc ?_ _ | with_reducible refine Chg.setCell ?_ _ _ (by first | (simp; done) | omega | (simp; omega)) | with_reducible refine Chg.setBlock ?_ _ _ (by first | (simp; done) | omega | (simp; omega)) | exact Chg.refl _ _))
  have oL : lOb W w.heap.size l := by rw [hW]; exact lOb.step (w := w.alloc _) (ob_alloc_at _ _) (Chg.below (by repeat (first | with_reducible exact Chg.refl _ _ | with_reducible exact chg0 | with_reducible refine Chg.drewN ?_ _ | with_reducible refine Chg.drew ?_ | with_reducible refine Chg.alloc ?_ _ | with_reducible refine Chg.setCell ?_ _ _ (by first | (simp; done) | omega | (simp; omega)) | with_reducible refine Chg.setBlock ?_ _ _ (by first | (simp; done) | omega | (simp; omega)) | exact Chg.refl _ _)))
  have NB := Lib.hid (show ¬ noFp a FC q v1 v2 w.heap.size from fun hf => absurd (HF.out _ hf) (Nat.lt_irrefl _))
  have HN := Lib.hid (H.out.below bW)
  have HM := Lib.hid (Moves.none (F := noFp a FC q v1 v2) (Chg.of_below bW))
  have OL := Lib.hid oL
  have lk := ob_lt oL
  clear hW bW
  go_upto_region 1 with fail
  go_cut [21] (fun s21 wx => s21 = .bool (!r.2) ∧ TableAt wx a.kp a.ab a.xb r.1 ∧ Chg (fun j => j = a.ab) W wx)
  case first =>
    obtain ⟨c0, c1, c2, c3, c4, c5, c6, c7, c8, c9, c10, c11, c12, c13, c14, cf, cl⟩ := HN.out.node.cells
    obtain ⟨x0, x1, x2, x3, x4, x5, x6, x7, x8, x9, x10⟩ := oL.cells
    clear c0 c1 c2 c3 c4 c5 c6 c7 c8 c9 c10 c12 c13 c14 x0 x1 x2 x6 x7 x8 x9 x10
    go_still_tail 11, (by kernel_rfl)
    go_wp2_with fail
    refine (HAct.out _ (HN.out.node.table.below (Chg.below (by repeat (first | with_reducible exact Chg.refl _ _ | with_reducible exact chg0 | with_reducible refine Chg.drewN ?_ _ | with_reducible refine Chg.drew ?_ | with_reducible refine Chg.alloc ?_ _ | with_reducible refine Chg.setCell ?_ _ _ (by first | (simp; done) | omega | (simp; omega)) | with_reducible refine Chg.setBlock ?_ _ _ (by first | (simp; done) | omega | (simp; omega)) | exact Chg.refl _ _))))).mono ?_
    rintro e w2 ⟨rfl, hT2, hc2⟩
    go_wp2_with fail
    go_meet
    exact ⟨rfl, hT2, Chg.trans (S' := fun j => j = a.ab) (by repeat (first | with_reducible exact Chg.refl _ _ | with_reducible exact chg0 | with_reducible refine Chg.drewN ?_ _ | with_reducible refine Chg.drew ?_ | with_reducible refine Chg.alloc ?_ _ | with_reducible refine Chg.setCell ?_ _ _ (by first | (simp; done) | omega | (simp; omega)) | with_reducible refine Chg.setBlock ?_ _ _ (by first | (simp; done) | omega | (simp; omega)) | exact Chg.refl _ _)) hc2 (fun _ _ h => h)⟩
  case rest =>
    obtain ⟨rfl, hT, hcT⟩ := hcut
    obtain ⟨hR, hMt⟩ := HN.out.tableL hT (hcT.mono fun j _ h => .inl h)
    have oLc := hMt.aside OL.out NB.out
    have HR1 := Lib.hid hR
    have HM1 := Lib.hid (HM.out.trans hMt)
    have OL1 := Lib.hid (show lOb wc w.heap.size l from oLc.1)
    have NL1 := Lib.hid oLc.2
    have lk1 := ob_lt oLc.1
    obtain ⟨rt, rb⟩ := r
    clear hR hMt oLc hcT hT oL lk HAct HN
    cases rb
    · have hno := HNO.out rfl
      simp only at hno
      subst hno
      go_wp2_with fail
      refine bodyPost_ret (v := .tuple #[]) (results_none rfl _ _ _) rfl ?_
      rw [HS.out, if_pos (by trivial)]
      exact ⟨rfl, _, by simpa using HR1.out.run, HM1.out⟩
    · go_upto_region 2 with fail
      go_cut [28] (fun s28 wx => s28 = .bool (decide (l.who = n.id)) ∧ Below wc.heap.size wc wx)
      case first =>
        obtain ⟨c0, c1, c2, c3, c4, c5, c6, c7, c8, c9, c10, c11, c12, c13, c14, cf, cl⟩ := HR1.out.node.cells
        obtain ⟨x0, x1, x2, x3, x4, x5, x6, x7, x8, x9, x10⟩ := OL1.out.cells
        go_quiet (fail)
        go_wp2_with fail
        go_meet
        exact ⟨rfl, Chg.below (by repeat (first | with_reducible exact Chg.refl _ _ | with_reducible exact chg0 | with_reducible refine Chg.drewN ?_ _ | with_reducible refine Chg.drew ?_ | with_reducible refine Chg.alloc ?_ _ | with_reducible refine Chg.setCell ?_ _ _ (by first | (simp; done) | omega | (simp; omega)) | with_reducible refine Chg.setBlock ?_ _ _ (by first | (simp; done) | omega | (simp; omega)) | exact Chg.refl _ _))⟩
      case rest =>
        obtain ⟨rfl, hbc⟩ := hcut
        have HR := Lib.hid (HR1.out.below hbc)
        have HM2 := Lib.hid (HM1.out.trans (Moves.none (Chg.of_below hbc)))
        have oLc : lOb wc w.heap.size l := OL1.out.step hbc
        have OL2 := Lib.hid oLc
        have lk2 := ob_lt oLc
        clear hbc HR1
        obtain ⟨c0, c1, c2, c3, c4, c5, c6, c7, c8, c9, c10, c11, c12, c13, c14, cf, cl⟩ := HR.out.node.cells
        obtain ⟨x0, x1, x2, x3, x4, x5, x6, x7, x8, x9, x10⟩ := oLc.cells
        clear oLc
        by_cases q0 : l.who = n.id
        · have q0' : decide (l.who = n.id) = true := by simpa using q0
          have Q0 := Lib.hid q0
          clear q0
          obtain ⟨pn, hpn⟩ : ∃ b, b = n.cpu.pinned := ⟨_, rfl⟩
          have HP := Lib.hid (fun (V : World) (hV : ProcAt V a.cp n.cpu) => Pinned_same hV)
          rw [← hpn] at HP HS
          clear hpn
          by_cases q1 : pn = l.block
          · have q1' : (pn != l.block) = false := by simpa using q1
            have Q1 := Lib.hid q1
            clear q1
            go_wp2_with fail
            go_quiet ((go_at_call 89; exact Calls.quiet_of_same (HP.out _ (HR.out.node.cpu.below (Chg.below (by repeat (first | with_reducible exact Chg.refl _ _ | with_reducible exact chg0 | with_reducible refine Chg.drewN ?_ _ | with_reducible refine Chg.drew ?_ | with_reducible refine Chg.alloc ?_ _ | with_reducible refine Chg.setCell ?_ _ _ (by first | (simp; done) | omega | (simp; omega)) | with_reducible refine Chg.setBlock ?_ _ _ (by first | (simp; done) | omega | (simp; omega)) | exact Chg.refl _ _)))))))
            go_wp2_with fail
            refine bodyPost_ret (v := .tuple #[]) (results_none rfl _ _ _) rfl ?_
            rw [HS.out, if_neg (by simp), if_pos Q0.out, if_pos Q1.out]
            exact ⟨rfl, _, by simpa using (HR.out.below (Chg.below (by repeat (first | with_reducible exact Chg.refl _ _ | with_reducible exact chg0 | with_reducible refine Chg.drewN ?_ _ | with_reducible refine Chg.drew ?_ | with_reducible refine Chg.alloc ?_ _ | with_reducible refine Chg.setCell ?_ _ _ (by first | (simp; done) | omega | (simp; omega)) | with_reducible refine Chg.setBlock ?_ _ _ (by first | (simp; done) | omega | (simp; omega)) | exact Chg.refl _ _)))).run, HM2.out.trans (Moves.none (by repeat (first | with_reducible exact Chg.refl _ _ | with_reducible exact chg0 | with_reducible refine Chg.drewN ?_ _ | with_reducible refine Chg.drew ?_ | with_reducible refine Chg.alloc ?_ _ | with_reducible refine Chg.setCell ?_ _ _ (by first | (simp; done) | omega | (simp; omega)) | with_reducible refine Chg.setBlock ?_ _ _ (by first | (simp; done) | omega | (simp; omega)) | exact Chg.refl _ _)))⟩
          · have q1' : (pn != l.block) = true := by simpa using q1
            have Q1 := Lib.hid q1
            clear q1
            go_wp2_with fail
            go_quiet ((go_at_call 89; exact Calls.quiet_of_same (HP.out _ (HR.out.node.cpu.below (Chg.below (by repeat (first | with_reducible exact Chg.refl _ _ | with_reducible exact chg0 | with_reducible refine Chg.drewN ?_ _ | with_reducible refine Chg.drew ?_ | with_reducible refine Chg.alloc ?_ _ | with_reducible refine Chg.setCell ?_ _ _ (by first | (simp; done) | omega | (simp; omega)) | with_reducible refine Chg.setBlock ?_ _ _ (by first | (simp; done) | omega | (simp; omega)) | exact Chg.refl _ _)))))))
            go_wp2_with fail
            refine (end_node_calls l.block (HR.out.below (Chg.below (by repeat (first | with_reducible exact Chg.refl _ _ | with_reducible exact chg0 | with_reducible refine Chg.drewN ?_ _ | with_reducible refine Chg.drew ?_ | with_reducible refine Chg.alloc ?_ _ | with_reducible refine Chg.setCell ?_ _ _ (by first | (simp; done) | omega | (simp; omega)) | with_reducible refine Chg.setBlock ?_ _ _ (by first | (simp; done) | omega | (simp; omega)) | exact Chg.refl _ _)))).run (by omega)).mono ?_
            rintro e w4 ⟨rfl, F4, hR4, m4⟩
            go_wp2_with fail
            refine bodyPost_ret (v := .tuple #[]) (results_none rfl _ _ _) rfl ?_
            rw [HS.out, if_neg (by simp), if_pos Q0.out, if_neg Q1.out]
            exact ⟨rfl, F4, hR4.below (Chg.below (by repeat (first | with_reducible exact Chg.refl _ _ | with_reducible exact chg0 | with_reducible refine Chg.drewN ?_ _ | with_reducible refine Chg.drew ?_ | with_reducible refine Chg.alloc ?_ _ | with_reducible refine Chg.setCell ?_ _ _ (by first | (simp; done) | omega | (simp; omega)) | with_reducible refine Chg.setBlock ?_ _ _ (by first | (simp; done) | omega | (simp; omega)) | exact Chg.refl _ _))), HM2.out.trans ((Moves.none (by repeat (first | with_reducible exact Chg.refl _ _ | with_reducible exact chg0 | with_reducible refine Chg.drewN ?_ _ | with_reducible refine Chg.drew ?_ | with_reducible refine Chg.alloc ?_ _ | with_reducible refine Chg.setCell ?_ _ _ (by first | (simp; done) | omega | (simp; omega)) | with_reducible refine Chg.setBlock ?_ _ _ (by first | (simp; done) | omega | (simp; omega)) | exact Chg.refl _ _))).trans (m4.trans (Moves.none (by repeat (first | with_reducible exact Chg.refl _ _ | with_reducible exact chg0 | with_reducible refine Chg.drewN ?_ _ | with_reducible refine Chg.drew ?_ | with_reducible refine Chg.alloc ?_ _ | with_reducible refine Chg.setCell ?_ _ _ (by first | (simp; done) | omega | (simp; omega)) | with_reducible refine Chg.setBlock ?_ _ _ (by first | (simp; done) | omega | (simp; omega)) | exact Chg.refl _ _)))))⟩
        · have q0' : decide (l.who = n.id) = false := by simpa using q0
          have Q0 := Lib.hid q0
          clear q0
          have hfc := fieldCount'
          obtain ⟨t, ht⟩ : ∃ t, t = n.cache.tok l.block := ⟨_, rfl⟩
          have HGet := Lib.hid (fun (V : World) (hV : CacheAt V a.lp n.cache FC) => Get_calls l.block hV)
          have HTake := Lib.hid (fun (V : World) (hV : CacheAt V a.lp n.cache FC) => Take_calls l.block (n.cache.tok l.block).count true true hV HB.out)
          obtain ⟨tk, htk⟩ : ∃ t, t = n.cache.take l.block (n.cache.tok l.block).count true true := ⟨_, rfl⟩
          simp only [← htk] at HS HTake
          rw [← ht] at HGet HTake
          simp only [Bundle.val, Bundle.cells] at HGet HTake
          clear ht htk
          have HLd := Lib.hid HR.out.lt
          have nF1 : ¬ noFp a FC q v1 v2 wc.heap.size := fun hf => absurd (HLd.out _ hf) (Nat.lt_irrefl _)
          have nFk : ¬ FC w.heap.size := fun hf => NB.out (.inl (.inr hf))
          have HNP := Lib.hid (HR.out.node.apart a.p (by simp [NAddr.list]))
          have lw := HM2.out.chg.size
          go_upto_region 5 with fail
          go_cut [8] (fun s8 wx => ∃ k FC', s8 = .pointer (some ⟨k, 0, none⟩) ∧ NO wx a { n with table := rt, cache := tk.1 } FC' q v1 v2 L D ∧ Moves w wx (noFp a FC q v1 v2) (noFp a FC' q v1 v2) ∧ ob wx k = some (.cells #[.int .i64 tk.2.count, .bool tk.2.owner, .bool tk.2.has, .int .i64 tk.2.data] 42 (0, 0)) ∧ ¬ noFp a FC' q v1 v2 k ∧ lOb wx w.heap.size l ∧ ¬ noFp a FC' q v1 v2 w.heap.size)
          case first =>
            have hS : wc.cell? ⟨a.p, 10, none⟩ = some (.pointer (some ⟨a.lp, 0, none⟩)) ∧ wc.cell? ⟨w.heap.size, 3, none⟩ = some (.int .i64 l.block) := ⟨c10, x3⟩
            clear c0 c1 c2 c3 c4 c5 c6 c7 c8 c9 c10 c11 c12 c13 c14 cf x0 x1 x2 x3 x4 x5 x6 x7 x8 x9 x10
            go_region_held3 (fun V => V.cell? ⟨a.p, 10, none⟩ = some (.pointer (some ⟨a.lp, 0, none⟩)) ∧ V.cell? ⟨w.heap.size, 3, none⟩ = some (.int .i64 l.block)) (first | with_reducible assumption | (refine kept_2 (S := fun _ => False) ?_ (by simp) hS; (repeat (first | with_reducible exact Chg.refl _ _ | with_reducible exact chg0 | with_reducible refine Chg.drewN ?_ _ | with_reducible refine Chg.drew ?_ | with_reducible refine Chg.alloc ?_ _ | with_reducible refine Chg.setCell ?_ _ _ (by first | (simp; done) | omega | (simp; omega)) | with_reducible refine Chg.setBlock ?_ _ _ (by first | (simp; done) | omega | (simp; omega)) | exact Chg.refl _ _)); done) | (refine keptAt_2 w2.heap.size ?_ (by (simp only [ne_eq]; omega)) hS; (repeat (first | with_reducible exact Chg.refl _ _ | with_reducible refine Chg.drewN ?_ _ | with_reducible refine Chg.drew ?_ | with_reducible refine Chg.alloc ?_ _ | with_reducible refine Chg.setCell ?_ _ _ (fun _ => rfl))); done) | (refine keptAt_2 wc.heap.size ?_ (by (simp only [ne_eq]; omega)) hS; (repeat (first | with_reducible exact Chg.refl _ _ | with_reducible refine Chg.drewN ?_ _ | with_reducible refine Chg.drew ?_ | with_reducible refine Chg.alloc ?_ _ | with_reducible refine Chg.setCell ?_ _ _ (fun _ => rfl))); done) | fail) (first
              | (go_at_call 92; refine (HGet.out _ (HR.out.node.cache.below (Chg.below (by repeat (first | with_reducible exact Chg.refl _ _ | with_reducible exact chg0 | with_reducible refine Chg.drewN ?_ _ | with_reducible refine Chg.drew ?_ | with_reducible refine Chg.alloc ?_ _ | with_reducible refine Chg.setCell ?_ _ _ (by first | (simp; done) | omega | (simp; omega)) | with_reducible refine Chg.setBlock ?_ _ _ (by first | (simp; done) | omega | (simp; omega)) | exact Chg.refl _ _))))).mono ?_; rintro e w2 ⟨rfl, hb2⟩; have hS := kept_2 (S := fun _ => False) (Chg.of_below hb2) (by simp) (by first | with_reducible assumption | (refine kept_2 (S := fun _ => False) ?_ (by simp) hS; (repeat (first | with_reducible exact Chg.refl _ _ | with_reducible exact chg0 | with_reducible refine Chg.drewN ?_ _ | with_reducible refine Chg.drew ?_ | with_reducible refine Chg.alloc ?_ _ | with_reducible refine Chg.setCell ?_ _ _ (by first | (simp; done) | omega | (simp; omega)) | with_reducible refine Chg.setBlock ?_ _ _ (by first | (simp; done) | omega | (simp; omega)) | exact Chg.refl _ _)); done) | fail); (try (have hZ : ob w2 wc.heap.size = some (.cells #[.int .i64 0, .bool false, .bool false, .int .i64 0] 42 (0, 0)) := (Chg.of_below (S := fun _ => False) hb2).ob (by (first | (simp [go_sem]; done) | fail)) (fun h => h))); have HB2 := Lib.hid (below_trans (Chg.below (w := wc) (by repeat (first | with_reducible exact Chg.refl _ _ | with_reducible exact chg0 | with_reducible refine Chg.drewN ?_ _ | with_reducible refine Chg.drew ?_ | with_reducible refine Chg.alloc ?_ _ | with_reducible refine Chg.setCell ?_ _ _ (by first | (simp; done) | omega | (simp; omega)) | with_reducible refine Chg.setBlock ?_ _ _ (by first | (simp; done) | omega | (simp; omega)) | exact Chg.refl _ _))) hb2); have lz2 := HB2.out.size; have nF2 : ¬ noFp a FC q v1 v2 w2.heap.size := fun hf => absurd (HLd.out _ hf) (Nat.not_lt.2 HB2.out.size); clear hb2)
              | (go_at_call 93; refine (HTake.out _ (HR.out.node.cache.below (below_trans HB2.out (Chg.below (by repeat (first | with_reducible exact Chg.refl _ _ | with_reducible exact chg0 | with_reducible refine Chg.drewN ?_ _ | with_reducible refine Chg.drew ?_ | with_reducible refine Chg.alloc ?_ _ | with_reducible refine Chg.setCell ?_ _ _ (by first | (simp; done) | omega | (simp; omega)) | with_reducible refine Chg.setBlock ?_ _ _ (by first | (simp; done) | omega | (simp; omega)) | exact Chg.refl _ _)))))).mono ?_; rintro e w3 ⟨rfl, FC3, hC3, m3⟩; have hS := kept_2 m3.chg ⟨HNP.out, nFk⟩ (by first | with_reducible assumption | (refine kept_2 (S := fun _ => False) ?_ (by simp) hS; (repeat (first | with_reducible exact Chg.refl _ _ | with_reducible exact chg0 | with_reducible refine Chg.drewN ?_ _ | with_reducible refine Chg.drew ?_ | with_reducible refine Chg.alloc ?_ _ | with_reducible refine Chg.setCell ?_ _ _ (by first | (simp; done) | omega | (simp; omega)) | with_reducible refine Chg.setBlock ?_ _ _ (by first | (simp; done) | omega | (simp; omega)) | exact Chg.refl _ _)); done) | fail); have hQ := NO.cacheV m3 hC3 HR.out (below_trans HB2.out (Chg.below (by repeat (first | with_reducible exact Chg.refl _ _ | with_reducible exact chg0 | with_reducible refine Chg.drewN ?_ _ | with_reducible refine Chg.drew ?_ | with_reducible refine Chg.alloc ?_ _ | with_reducible refine Chg.setCell ?_ _ _ (by first | (simp; done) | omega | (simp; omega)) | with_reducible refine Chg.setBlock ?_ _ _ (by first | (simp; done) | omega | (simp; omega)) | exact Chg.refl _ _)))); (first | (have hZ3 : ob w3 wc.heap.size = some (.cells #[.int .i64 0, .bool false, .bool false, .int .i64 0] 42 (0, 0)) ∧ _ := hQ.2.1.aside (by (first | exact hZ | (simp [go_sem]; exact hZ) | fail)) nF1; obtain ⟨z0, z1, z2, z3, zf⟩ := ob_cells4 hZ3.1; have lz3 := ob_lt hZ3.1; have HZ3 := Lib.hid hZ3; clear hZ3) | (have hZ3 : ob w3 w2.heap.size = some (.cells #[.int .i64 0, .bool false, .bool false, .int .i64 0] 42 (0, 0)) ∧ _ := hQ.2.1.aside (by (first | (simp [go_sem]; done) | fail)) nF2; obtain ⟨z0, z1, z2, z3, zf⟩ := ob_cells4 hZ3.1; have lz3 := ob_lt hZ3.1; have HZ3 := Lib.hid hZ3; clear hZ3) | skip); have HQ := Lib.hid hQ; clear hQ; clear hC3 m3)
              | fail)
            all_goals (go_wp2_with fail)
            all_goals go_meet
            all_goals first
              | exact ⟨_, FC3, rfl, HQ.out.1.below (Chg.below (by repeat (first | with_reducible exact Chg.refl _ _ | with_reducible exact chg0 | with_reducible refine Chg.drewN ?_ _ | with_reducible refine Chg.drew ?_ | with_reducible refine Chg.alloc ?_ _ | with_reducible refine Chg.setCell ?_ _ _ (by first | (simp; done) | omega | (simp; omega)) | with_reducible refine Chg.setBlock ?_ _ _ (by first | (simp; done) | omega | (simp; omega)) | exact Chg.refl _ _))), HM2.out.trans (HQ.out.2.2.trans (Moves.none (by repeat (first | with_reducible exact Chg.refl _ _ | with_reducible exact chg0 | with_reducible refine Chg.drewN ?_ _ | with_reducible refine Chg.drew ?_ | with_reducible refine Chg.alloc ?_ _ | with_reducible refine Chg.setCell ?_ _ _ (by first | (simp; done) | omega | (simp; omega)) | with_reducible refine Chg.setBlock ?_ _ _ (by first | (simp; done) | omega | (simp; omega)) | exact Chg.refl _ _)))), by simp [go_sem], fun hf => Nat.lt_irrefl _ (HQ.out.1.lt _ hf), Chg.ob (S := fun _ => False) (by repeat (first | with_reducible exact Chg.refl _ _ | with_reducible exact chg0 | with_reducible refine Chg.drewN ?_ _ | with_reducible refine Chg.drew ?_ | with_reducible refine Chg.alloc ?_ _ | with_reducible refine Chg.setCell ?_ _ _ (by first | (simp; done) | omega | (simp; omega)) | with_reducible refine Chg.setBlock ?_ _ _ (by first | (simp; done) | omega | (simp; omega)) | exact Chg.refl _ _)) (HQ.out.2.2.aside OL2.out NB.out).1 (fun h => h), (HQ.out.2.2.aside OL2.out NB.out).2⟩
              | exact ⟨_, FC3, rfl, (HQ.out.1.fin (HM2.out.trans HQ.out.2.2) HZ3.out.2 (by omega) (by (repeat (first | with_reducible exact Chg.refl _ _ | with_reducible refine Chg.drewN ?_ _ | with_reducible refine Chg.drew ?_ | with_reducible refine Chg.alloc ?_ _ | with_reducible refine Chg.setCell ?_ _ _ (fun _ => rfl))))).1, (HQ.out.1.fin (HM2.out.trans HQ.out.2.2) HZ3.out.2 (by omega) (by (repeat (first | with_reducible exact Chg.refl _ _ | with_reducible refine Chg.drewN ?_ _ | with_reducible refine Chg.drew ?_ | with_reducible refine Chg.alloc ?_ _ | with_reducible refine Chg.setCell ?_ _ _ (fun _ => rfl))))).2, by simp [go_sem, HZ3.out.1, lz3, setAt], HZ3.out.2, Chg.ob (S := fun j => j = w2.heap.size) (by first | ((repeat (first | with_reducible exact Chg.refl _ _ | with_reducible refine Chg.drewN ?_ _ | with_reducible refine Chg.drew ?_ | with_reducible refine Chg.alloc ?_ _ | with_reducible refine Chg.setCell ?_ _ _ (fun _ => rfl))); done) | fail) (HQ.out.2.2.aside OL2.out NB.out).1 (by omega), (HQ.out.2.2.aside OL2.out NB.out).2⟩
              | exact ⟨_, FC3, rfl, (HQ.out.1.fin (HM2.out.trans HQ.out.2.2) HZ3.out.2 (by omega) (by (repeat (first | with_reducible exact Chg.refl _ _ | with_reducible refine Chg.drewN ?_ _ | with_reducible refine Chg.drew ?_ | with_reducible refine Chg.alloc ?_ _ | with_reducible refine Chg.setCell ?_ _ _ (fun _ => rfl))))).1, (HQ.out.1.fin (HM2.out.trans HQ.out.2.2) HZ3.out.2 (by omega) (by (repeat (first | with_reducible exact Chg.refl _ _ | with_reducible refine Chg.drewN ?_ _ | with_reducible refine Chg.drew ?_ | with_reducible refine Chg.alloc ?_ _ | with_reducible refine Chg.setCell ?_ _ _ (fun _ => rfl))))).2, by simp [go_sem, HZ3.out.1, lz3, setAt], HZ3.out.2, Chg.ob (S := fun j => j = wc.heap.size) (by (repeat (first | with_reducible exact Chg.refl _ _ | with_reducible refine Chg.drewN ?_ _ | with_reducible refine Chg.drew ?_ | with_reducible refine Chg.alloc ?_ _ | with_reducible refine Chg.setCell ?_ _ _ (fun _ => rfl)))) (HQ.out.2.2.aside OL2.out NB.out).1 (by omega), (HQ.out.2.2.aside OL2.out NB.out).2⟩
              | fail
          case rest =>
            obtain ⟨k, FC', rfl, hR4, hM4, ho4, hn4, oL4, nL4⟩ := hcut
            have HR4 := Lib.hid hR4
            have HM4 := Lib.hid hM4
            have HO4 := Lib.hid ho4
            have HN4 := Lib.hid hn4
            have OL4 := Lib.hid oL4
            have NL4 := Lib.hid nL4
            clear c0 c1 c2 c3 c4 c5 c6 c7 c8 c9 c10 c11 c12 c13 c14 cf x0 x1 x2 x3 x4 x5 x6 x7 x8 x9 x10 cl
            obtain ⟨c0, c1, c2, c3, c4, c5, c6, c7, c8, c9, c10, c11, c12, c13, c14, cf, cl⟩ := hR4.node.cells
            obtain ⟨x0, x1, x2, x3, x4, x5, x6, x7, x8, x9, x10⟩ := oL4.cells
            obtain ⟨z0, z1, z2, z3, zf⟩ := ob_cells4 ho4
            have lz := ob_lt ho4
            have lL := ob_lt oL4
            clear hR4 hM4 ho4 hn4 oL4 nL4 HTake HGet
            obtain ⟨tc, tb⟩ := tk
            by_cases q1 : 0 < tb.count
            · have q1' : decide (0 < tb.count) = true := by simpa using q1
              have Q1 := Lib.hid q1
              clear q1
              go_wp2_with fail
              have HT5 := Lib.hid (fun V => LTokens_calls n.id (l.who) (l.block) (tb) V)
              simp only [Bundle.val, Bundle.cells] at HT5
              have hS : wc.cell? ⟨a.p, 9, none⟩ = some (.int .i64 n.id) ∧ wc.cell? ⟨w.heap.size, 5, none⟩ = some (.int .i64 l.who) ∧ wc.cell? ⟨w.heap.size, 3, none⟩ = some (.int .i64 l.block) ∧ wc.cell? ⟨k, 0, none⟩ = some (.int .i64 tb.count) ∧ wc.cell? ⟨k, 1, none⟩ = some (.bool tb.owner) ∧ wc.cell? ⟨k, 2, none⟩ = some (.bool tb.has) ∧ wc.cell? ⟨k, 3, none⟩ = some (.int .i64 tb.data) := ⟨c9, x5, x3, z0, z1, z2, z3⟩
              clear c0 c1 c2 c3 c4 c5 c6 c7 c8 c9 c10 c11 c12 c13 c14 cf x0 x1 x2 x3 x4 x5 x6 x7 x8 x9 x10 z0 z1 z2 z3 zf
              go_upto_region 7 with fail
              go_region_held3 (fun V => V.cell? ⟨a.p, 9, none⟩ = some (.int .i64 n.id) ∧ V.cell? ⟨w.heap.size, 5, none⟩ = some (.int .i64 l.who) ∧ V.cell? ⟨w.heap.size, 3, none⟩ = some (.int .i64 l.block) ∧ V.cell? ⟨k, 0, none⟩ = some (.int .i64 tb.count) ∧ V.cell? ⟨k, 1, none⟩ = some (.bool tb.owner) ∧ V.cell? ⟨k, 2, none⟩ = some (.bool tb.has) ∧ V.cell? ⟨k, 3, none⟩ = some (.int .i64 tb.data)) (first | with_reducible assumption | (refine kept_7 (S := fun _ => False) ?_ (by simp) hS; (repeat (first | with_reducible exact Chg.refl _ _ | with_reducible exact chg0 | with_reducible refine Chg.drewN ?_ _ | with_reducible refine Chg.drew ?_ | with_reducible refine Chg.alloc ?_ _ | with_reducible refine Chg.setCell ?_ _ _ (by first | (simp; done) | omega | (simp; omega)) | with_reducible refine Chg.setBlock ?_ _ _ (by first | (simp; done) | omega | (simp; omega)) | exact Chg.refl _ _)); done) | fail) (first
                | (go_at_call 87; refine (HT5.out _).mono ?_; rintro e w5 ⟨rfl, hb5⟩; have hS := kept_7 (S := fun _ => False) (Chg.of_below hb5) (by simp) (by first | with_reducible assumption | (refine kept_7 (S := fun _ => False) ?_ (by simp) hS; (repeat (first | with_reducible exact Chg.refl _ _ | with_reducible exact chg0 | with_reducible refine Chg.drewN ?_ _ | with_reducible refine Chg.drew ?_ | with_reducible refine Chg.alloc ?_ _ | with_reducible refine Chg.setCell ?_ _ _ (by first | (simp; done) | omega | (simp; omega)) | with_reducible refine Chg.setBlock ?_ _ _ (by first | (simp; done) | omega | (simp; omega)) | exact Chg.refl _ _)); done) | fail); have HB5 := Lib.hid (below_trans (Chg.below (w := wc) (by repeat (first | with_reducible exact Chg.refl _ _ | with_reducible exact chg0 | with_reducible refine Chg.drewN ?_ _ | with_reducible refine Chg.drew ?_ | with_reducible refine Chg.alloc ?_ _ | with_reducible refine Chg.setCell ?_ _ _ (by first | (simp; done) | omega | (simp; omega)) | with_reducible refine Chg.setBlock ?_ _ _ (by first | (simp; done) | omega | (simp; omega)) | exact Chg.refl _ _))) hb5); clear hb5; simp only [Letter.val, Letter.cells, Letter.tok])
                | (go_at_call 50; have hb6 := Lib.hid (below_trans HB5.out (Chg.below (by repeat (first | with_reducible exact Chg.refl _ _ | with_reducible exact chg0 | with_reducible refine Chg.drewN ?_ _ | with_reducible refine Chg.drew ?_ | with_reducible refine Chg.alloc ?_ _ | with_reducible refine Chg.setCell ?_ _ _ (by first | (simp; done) | omega | (simp; omega)) | with_reducible refine Chg.setBlock ?_ _ _ (by first | (simp; done) | omega | (simp; omega)) | exact Chg.refl _ _)))); refine (NO.send (Letter.tok n.id (l.who) (l.block) (tb)) (HR4.out.below hb6.out) (by omega)).mono ?_; rintro e w6 ⟨rfl, v3, hR6, m6⟩; have hS : w6.cell? ⟨a.p, 9, none⟩ = some (.int .i64 n.id) ∧ w6.cell? ⟨w.heap.size, 5, none⟩ = some (.int .i64 l.who) ∧ w6.cell? ⟨w.heap.size, 3, none⟩ = some (.int .i64 l.block) ∧ w6.cell? ⟨k, 0, none⟩ = some (.int .i64 tb.count) ∧ w6.cell? ⟨k, 1, none⟩ = some (.bool tb.owner) ∧ w6.cell? ⟨k, 2, none⟩ = some (.bool tb.has) ∧ w6.cell? ⟨k, 3, none⟩ = some (.int .i64 tb.data) := ⟨hR6.node.cells.2.2.2.2.2.2.2.2.2.1, cell_ob (m6.aside (ob_step hb6.out OL4.out) NL4.out).1 5, cell_ob (m6.aside (ob_step hb6.out OL4.out) NL4.out).1 3, cell_ob (m6.aside (ob_step hb6.out HO4.out) HN4.out).1 0, cell_ob (m6.aside (ob_step hb6.out HO4.out) HN4.out).1 1, cell_ob (m6.aside (ob_step hb6.out HO4.out) HN4.out).1 2, cell_ob (m6.aside (ob_step hb6.out HO4.out) HN4.out).1 3⟩; have HR6 := Lib.hid hR6; have HM6 := Lib.hid (HM4.out.trans ((Moves.none (Chg.of_below hb6.out)).trans m6)); clear hR6 m6)
                | fail)
              all_goals (go_wp2_with fail)
              all_goals
                go_end0
                rw [HS.out, if_neg (by simp), if_neg Q0.out]
                have ht : tokL n.id l.who l.block tb = [Letter.tok n.id l.who l.block tb] := by unfold tokL; rw [if_pos Q1.out]
                refine ⟨rfl, _, ?_, HM6.out.trans (Moves.none (by repeat (first | with_reducible exact Chg.refl _ _ | with_reducible exact chg0 | with_reducible refine Chg.drewN ?_ _ | with_reducible refine Chg.drew ?_ | with_reducible refine Chg.alloc ?_ _ | with_reducible refine Chg.setCell ?_ _ _ (by first | (simp; done) | omega | (simp; omega)) | with_reducible refine Chg.setBlock ?_ _ _ (by first | (simp; done) | omega | (simp; omega)) | exact Chg.refl _ _)))⟩
                simp only [ht]
                exact (HR6.out.below (Chg.below (by repeat (first | with_reducible exact Chg.refl _ _ | with_reducible exact chg0 | with_reducible refine Chg.drewN ?_ _ | with_reducible refine Chg.drew ?_ | with_reducible refine Chg.alloc ?_ _ | with_reducible refine Chg.setCell ?_ _ _ (by first | (simp; done) | omega | (simp; omega)) | with_reducible refine Chg.setBlock ?_ _ _ (by first | (simp; done) | omega | (simp; omega)) | exact Chg.refl _ _)))).run
            · have q1' : decide (0 < tb.count) = false := by simpa using q1
              have Q1 := Lib.hid q1
              clear q1
              go_wp2_with fail
              go_end0
              rw [HS.out, if_neg (by simp), if_neg Q0.out]
              have ht : tokL n.id l.who l.block tb = [] := by unfold tokL; rw [if_neg (by have := Q1.out; omega)]
              refine ⟨rfl, _, ?_, HM4.out⟩
              simp only [ht, List.append_nil]
              exact HR4.out.run

set_option maxHeartbeats 8000000 in
set_option maxRecDepth 20000 in
theorem deactivate_calls (l : Letter) (d : Draws) (h : Run w a q n L D F) (hl : L.length ≤ 900000) :
    Calls Tryz.prog 40 #[.pointer (some ⟨a.p, 0, none⟩), l.val, d.val, .pointer (some ⟨q, 0, none⟩)] w fun e w' => e = .returned (.tuple #[]) ∧ ∃ F', Run w' a q (n.deactivate l).1 (L ++ (n.deactivate l).2) D F' ∧ Moves w w' F F' := by
  obtain ⟨FC, v1, v2, h, rfl⟩ := h
  have H := Lib.hid h
  have HF := Lib.hid h.lt
  have hset : n.deactivate l = ({ n with table := n.table.deactivate l.block l.seq }, [n.home 7 l.block l.seq]) := rfl
  have HS := Lib.hid hset
  clear h hset
  simp only [Letter.val, Letter.cells, Draws.val, Draws.cells]
  go_enter Tryz.func40, Tryz.ntmps40
  go_wp2_with fail
  obtain ⟨W, hW⟩ : ∃ W, W = ((w.alloc (Obj.cells #[Value.int IntKind.i64 l.kind, Value.int IntKind.i64 l.src, Value.int IntKind.i64 l.dst, Value.int IntKind.i64 l.block, Value.int IntKind.i64 l.seq, Value.int IntKind.i64 l.who, Value.bool l.write, Value.int IntKind.i64 l.tokens.count, Value.bool l.tokens.owner, Value.bool l.tokens.has, Value.int IntKind.i64 l.tokens.data] 44)).alloc (Obj.cells #[Value.int IntKind.i64 d.d0, Value.int IntKind.i64 d.d1, Value.int IntKind.i64 d.d2] 39)) := ⟨_, rfl⟩
  rw [← hW]
  have bW : Below w.heap.size w W := by rw [hW]; exact Chg.below (by repeat (first | with_reducible exact Chg.refl _ _ | with_reducible exact chg0 | with_reducible refine Chg.drewN ?_ _ | with_reducible refine Chg.drew ?_ | with_reducible refine Chg.alloc ?_ _ | with_reducible refine Chg.setCell ?_ _ _ (by first | (simp; done) | omega | (simp; omega)) | with_reducible refine Chg.setBlock ?_ _ _ (by first | (simp; done) | omega | (simp; omega)) | exact Chg.refl _ _))
  have oL : lOb W w.heap.size l := by rw [hW]; exact lOb.step (w := w.alloc _) (ob_alloc_at _ _) (Chg.below (by repeat (first | with_reducible exact Chg.refl _ _ | with_reducible exact chg0 | with_reducible refine Chg.drewN ?_ _ | with_reducible refine Chg.drew ?_ | with_reducible refine Chg.alloc ?_ _ | with_reducible refine Chg.setCell ?_ _ _ (by first | (simp; done) | omega | (simp; omega)) | with_reducible refine Chg.setBlock ?_ _ _ (by first | (simp; done) | omega | (simp; omega)) | exact Chg.refl _ _)))
  have NB := Lib.hid (show ¬ noFp a FC q v1 v2 w.heap.size from fun hf => absurd (HF.out _ hf) (Nat.lt_irrefl _))
  have HN := Lib.hid (H.out.below bW)
  have HM := Lib.hid (Moves.none (F := noFp a FC q v1 v2) (Chg.of_below bW))
  have OL := Lib.hid oL
  have lk := ob_lt oL
  clear hW bW
  go_upto_region 1 with fail
  go_cut [] (fun wx => TableAt wx a.kp a.ab a.xb (n.table.deactivate l.block l.seq) ∧ Chg (fun j => j = a.ab ∨ j = a.xb) W wx)
  case first =>
    obtain ⟨c0, c1, c2, c3, c4, c5, c6, c7, c8, c9, c10, c11, c12, c13, c14, cf, cl⟩ := HN.out.node.cells
    obtain ⟨x0, x1, x2, x3, x4, x5, x6, x7, x8, x9, x10⟩ := oL.cells
    clear c0 c1 c2 c3 c4 c5 c6 c7 c8 c9 c10 c12 c13 c14 x0 x1 x2 x5 x6 x7 x8 x9 x10
    go_still_tail 8, (by kernel_rfl)
    go_wp2_with fail
    refine (Deactivate_calls l.block l.seq (HN.out.node.table.below (Chg.below (by repeat (first | with_reducible exact Chg.refl _ _ | with_reducible exact chg0 | with_reducible refine Chg.drewN ?_ _ | with_reducible refine Chg.drew ?_ | with_reducible refine Chg.alloc ?_ _ | with_reducible refine Chg.setCell ?_ _ _ (by first | (simp; done) | omega | (simp; omega)) | with_reducible refine Chg.setBlock ?_ _ _ (by first | (simp; done) | omega | (simp; omega)) | exact Chg.refl _ _))))).mono ?_
    rintro e w2 ⟨rfl, hT2, hc2⟩
    go_wp2_with fail
    go_meet
    exact ⟨hT2, Chg.trans (S' := fun j => j = a.ab ∨ j = a.xb) (by repeat (first | with_reducible exact Chg.refl _ _ | with_reducible exact chg0 | with_reducible refine Chg.drewN ?_ _ | with_reducible refine Chg.drew ?_ | with_reducible refine Chg.alloc ?_ _ | with_reducible refine Chg.setCell ?_ _ _ (by first | (simp; done) | omega | (simp; omega)) | with_reducible refine Chg.setBlock ?_ _ _ (by first | (simp; done) | omega | (simp; omega)) | exact Chg.refl _ _)) hc2 (fun _ _ h => h)⟩
  case rest =>
    obtain ⟨hT, hcT⟩ := hcut
    obtain ⟨hR, hMt⟩ := HN.out.tableL hT hcT
    have oLc := hMt.aside OL.out NB.out
    have HR1 := Lib.hid hR
    have HM1 := Lib.hid (HM.out.trans hMt)
    have lk1 := ob_lt oLc.1
    obtain ⟨x0, x1, x2, x3, x4, x5, x6, x7, x8, x9, x10⟩ := (show lOb wc w.heap.size l from oLc.1).cells
    clear hR hMt oLc hcT hT oL lk HN
    go_wp2_with fail
    refine (home_calls 7 l.block l.seq HR1.out.node).mono ?_
    rintro e w4 ⟨rfl, hb4⟩
    go_wp2_with fail
    refine (NO.send (n.home 7 l.block l.seq) (HR1.out.below hb4) (by omega)).mono ?_
    rintro e w5 ⟨rfl, v3, hR5, m5⟩
    go_wp2_with fail
    go_end0
    rw [HS.out]
    exact ⟨rfl, _, hR5.run, HM1.out.trans ((Moves.none (Chg.of_below hb4)).trans m5)⟩
end
end Go.Proofs.YtchlioikkhnidaaGreat
