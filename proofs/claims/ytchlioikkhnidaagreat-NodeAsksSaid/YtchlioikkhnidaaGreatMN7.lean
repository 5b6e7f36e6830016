/-
  The program's node: somebody asks.
-/
import Derived.Test.YtchlioikkhnidaaGreatMN6
set_option linter.unusedVariables false
set_option linter.unusedSimpArgs false
namespace Go.Proofs.YtchlioikkhnidaaGreat
open Go.RowKit Go.Sort Go.ChangeShapes Go.WideShapes Go.ChangeAt
open Go.ChangeMaps (setBlock)
set_option linter.unusedVariables false
set_option linter.unusedSimpArgs false
section
variable {w w' w'' : World} {a : NAddr} {q : Nat} {n n' : Node} {L L' : List Letter} {D D' : List Done} {F F' FC : Nat → Prop} {v1 v2 : Value}
theorem fieldCount' (n d : Int) (o h : Bool) (w : World) : (Instr.field 42 (.agg #[.int .i64 n, .bool o, .bool h, .int .i64 d]) 0).run Tryz.prog w = .ok (.int .i64 n) w := by kernel_rfl
set_option maxHeartbeats 4000000 in
theorem Pinned_same {p : Nat} {s : Proc} (h : ProcAt w p s) : Calls Tryz.prog 89 #[.pointer (some ⟨p, 0, none⟩)] w fun e w' => e = .returned (.int .i64 s.pinned) ∧ w' = w := by
  obtain ⟨c0, c1, c2, c3, c4, c5, c6, c7, c8, c9, cf, cl⟩ := ob_cells10 h.1
  clear h
  obtain ⟨b, hb⟩ : ∃ b, b = s.busy := ⟨_, rfl⟩
  have hp : s.pinned = if b = true then s.op.block else -1 := by rw [hb]; rfl
  rw [← hb] at c9
  rw [hp]
  clear hp hb
  cases b
  all_goals
    go_enter Tryz.func89, Tryz.ntmps89
    go_wp2_with fail
    go_ret
    exact ⟨by simp, rfl⟩

set_option maxHeartbeats 8000000 in
set_option maxRecDepth 20000 in
theorem asks_calls (l : Letter) (d : Draws) (h : Run w a q n L D F) (hl : L.length ≤ 900000) (hb : (n.cache.tok l.block).count ≤ 1000000000000) :
    Calls Tryz.prog 38 #[.pointer (some ⟨a.p, 0, none⟩), l.val, d.val, .pointer (some ⟨q, 0, none⟩)] w fun e w' => e = .returned (.tuple #[]) ∧ ∃ F', Run w' a q (n.asks l d).1 (L ++ (n.asks l d).2) D F' ∧ Moves w w' F F' := by
  obtain ⟨FC, v1, v2, h, rfl⟩ := h
  have H := Lib.hid h
  have HF := Lib.hid h.lt
  have HB := Lib.hid hb
  have hset : n.asks l d = if n.own l.block = true ∧ n.cpu.pinned = l.block then (n, []) else
      ({ n with cache := (n.cache.take l.block (reply n.c.policy (n.cache.tok l.block) l.write d).1 (reply n.c.policy (n.cache.tok l.block) l.write d).2.1 (reply n.c.policy (n.cache.tok l.block) l.write d).2.2).1 }, tokL n.id l.src l.block (n.cache.take l.block (reply n.c.policy (n.cache.tok l.block) l.write d).1 (reply n.c.policy (n.cache.tok l.block) l.write d).2.1 (reply n.c.policy (n.cache.tok l.block) l.write d).2.2).2) := rfl
  have HS := Lib.hid hset
  clear h hset hb
  simp only [Letter.val, Letter.cells, Draws.val, Draws.cells]
  go_enter Tryz.func38, Tryz.ntmps38
  go_wp2_with fail
  refine (own_calls l.block (H.out.node.below (Chg.below (by repeat (first | with_reducible exact Chg.refl _ _ | with_reducible exact chg0 | with_reducible refine Chg.drewN ?_ _ | with_reducible refine Chg.drew ?_ | with_reducible refine Chg.alloc ?_ _ | with_reducible refine Chg.setCell ?_ _ _ (by first | (simp; done) | omega | (simp; omega)) | with_reducible refine Chg.setBlock ?_ _ _ (by first | (simp; done) | omega | (simp; omega)) | exact Chg.refl _ _))))).mono ?_
  rintro e w1 ⟨rfl, hb1⟩
  have hw1 : Below w.heap.size w w1 := below_trans (Chg.below (by repeat (first | with_reducible exact Chg.refl _ _ | with_reducible exact chg0 | with_reducible refine Chg.drewN ?_ _ | with_reducible refine Chg.drew ?_ | with_reducible refine Chg.alloc ?_ _ | with_reducible refine Chg.setCell ?_ _ _ (by first | (simp; done) | omega | (simp; omega)) | with_reducible refine Chg.setBlock ?_ _ _ (by first | (simp; done) | omega | (simp; omega)) | exact Chg.refl _ _))) hb1
  have oL : lOb w1 w.heap.size l := (Chg.of_below (S := fun _ => False) hb1).ob (by simp [go_sem]) (fun h => h)
  have oD : ob w1 (w.heap.size + 1) = some (.cells #[.int .i64 d.d0, .int .i64 d.d1, .int .i64 d.d2] 39 (0, 0)) := (Chg.of_below (S := fun _ => False) hb1).ob (by simp [go_sem]) (fun h => h)
  have NB := Lib.hid (show ¬ noFp a FC q v1 v2 w.heap.size from fun hf => absurd (HF.out _ hf) (Nat.lt_irrefl _))
  have HN1 := Lib.hid (H.out.below hw1)
  have HM1 := Lib.hid (Moves.none (F := noFp a FC q v1 v2) (Chg.of_below hw1))
  have OL1 := Lib.hid oL
  have OD1 := Lib.hid oD
  have lk := ob_lt oD
  have lk0 := ob_lt oL
  obtain ⟨ow, how⟩ : ∃ b, b = n.own l.block := ⟨_, rfl⟩
  obtain ⟨pn, hpn⟩ : ∃ b, b = n.cpu.pinned := ⟨_, rfl⟩
  obtain ⟨⟨av, an, aq⟩, hact⟩ : ∃ x, x = n.table.act l.block := ⟨_, rfl⟩
  rw [← how, ← hact]
  rw [← how, ← hpn] at HS
  have HP := Lib.hid (fun (V : World) (hV : ProcAt V a.cp n.cpu) => Pinned_same hV)
  rw [← hpn] at HP
  simp only [Active.val, Active.cells]
  clear hb1 hw1 oD how hact hpn
  go_upto_region 2 with fail
  go_cut [31] (fun s31 wx => s31 = .bool (ow && decide (pn = l.block)) ∧ Below w1.heap.size w1 wx)
  case first =>
    obtain ⟨c0, c1, c2, c3, c4, c5, c6, c7, c8, c9, c10, c11, c12, c13, c14, cf, cl⟩ := HN1.out.node.cells
    obtain ⟨x0, x1, x2, x3, x4, x5, x6, x7, x8, x9, x10⟩ := oL.cells
    cases ow
    · go_quiet (fail)
      go_wp2_with fail
      go_meet
      exact ⟨by simp, Chg.below (by repeat (first | with_reducible exact Chg.refl _ _ | with_reducible exact chg0 | with_reducible refine Chg.drewN ?_ _ | with_reducible refine Chg.drew ?_ | with_reducible refine Chg.alloc ?_ _ | with_reducible refine Chg.setCell ?_ _ _ (by first | (simp; done) | omega | (simp; omega)) | with_reducible refine Chg.setBlock ?_ _ _ (by first | (simp; done) | omega | (simp; omega)) | exact Chg.refl _ _))⟩
    · by_cases q1 : pn = l.block
      · have q1' : (pn == l.block) = true := by simpa using q1
        have Q1 := Lib.hid q1
        clear q1
        go_quiet ((go_at_call 89; exact Calls.quiet_of_same (HP.out _ (HN1.out.node.cpu.below (Chg.below (by repeat (first | with_reducible exact Chg.refl _ _ | with_reducible exact chg0 | with_reducible refine Chg.drewN ?_ _ | with_reducible refine Chg.drew ?_ | with_reducible refine Chg.alloc ?_ _ | with_reducible refine Chg.setCell ?_ _ _ (by first | (simp; done) | omega | (simp; omega)) | with_reducible refine Chg.setBlock ?_ _ _ (by first | (simp; done) | omega | (simp; omega)) | exact Chg.refl _ _)))))))
        go_wp2_with fail
        go_meet
        exact ⟨by simp [Q1.out], Chg.below (by repeat (first | with_reducible exact Chg.refl _ _ | with_reducible exact chg0 | with_reducible refine Chg.drewN ?_ _ | with_reducible refine Chg.drew ?_ | with_reducible refine Chg.alloc ?_ _ | with_reducible refine Chg.setCell ?_ _ _ (by first | (simp; done) | omega | (simp; omega)) | with_reducible refine Chg.setBlock ?_ _ _ (by first | (simp; done) | omega | (simp; omega)) | exact Chg.refl _ _))⟩
      · have q1' : (pn == l.block) = false := by simpa using q1
        have Q1 := Lib.hid q1
        clear q1
        go_quiet ((go_at_call 89; exact Calls.quiet_of_same (HP.out _ (HN1.out.node.cpu.below (Chg.below (by repeat (first | with_reducible exact Chg.refl _ _ | with_reducible exact chg0 | with_reducible refine Chg.drewN ?_ _ | with_reducible refine Chg.drew ?_ | with_reducible refine Chg.alloc ?_ _ | with_reducible refine Chg.setCell ?_ _ _ (by first | (simp; done) | omega | (simp; omega)) | with_reducible refine Chg.setBlock ?_ _ _ (by first | (simp; done) | omega | (simp; omega)) | exact Chg.refl _ _)))))))
        go_wp2_with fail
        go_meet
        exact ⟨by simp [Q1.out], Chg.below (by repeat (first | with_reducible exact Chg.refl _ _ | with_reducible exact chg0 | with_reducible refine Chg.drewN ?_ _ | with_reducible refine Chg.drew ?_ | with_reducible refine Chg.alloc ?_ _ | with_reducible refine Chg.setCell ?_ _ _ (by first | (simp; done) | omega | (simp; omega)) | with_reducible refine Chg.setBlock ?_ _ _ (by first | (simp; done) | omega | (simp; omega)) | exact Chg.refl _ _))⟩
  case rest =>
    obtain ⟨rfl, hbc⟩ := hcut
    have HN := Lib.hid (HN1.out.below hbc)
    have HM := Lib.hid (HM1.out.trans (Moves.none (Chg.of_below hbc)))
    have oLc : lOb wc w.heap.size l := oL.step hbc
    have oDc := ob_step hbc OD1.out
    have OL := Lib.hid oLc
    have OD := Lib.hid oDc
    have lkc : w.heap.size + 1 < wc.heap.size := Nat.lt_of_lt_of_le lk hbc.size
    have lkc0 : w.heap.size < wc.heap.size := by omega
    clear hbc
    obtain ⟨g, hg⟩ : ∃ g, g = (ow && decide (pn = l.block)) := ⟨_, rfl⟩
    have hgs : n.asks l d = if g = true then (n, []) else
      ({ n with cache := (n.cache.take l.block (reply n.c.policy (n.cache.tok l.block) l.write d).1 (reply n.c.policy (n.cache.tok l.block) l.write d).2.1 (reply n.c.policy (n.cache.tok l.block) l.write d).2.2).1 }, tokL n.id l.src l.block (n.cache.take l.block (reply n.c.policy (n.cache.tok l.block) l.write d).1 (reply n.c.policy (n.cache.tok l.block) l.write d).2.1 (reply n.c.policy (n.cache.tok l.block) l.write d).2.2).2) := by
      rw [HS.out, hg]
      by_cases h1 : ow = true ∧ pn = l.block
      · rw [if_pos h1, if_pos (by simp [h1.1, h1.2])]
      · rw [if_neg h1, if_neg (by simpa using h1)]
    rw [← hg]
    have HG := Lib.hid hgs
    clear hgs hg HS oL HP lk lk0
    obtain ⟨c0, c1, c2, c3, c4, c5, c6, c7, c8, c9, c10, c11, c12, c13, c14, cf, cl⟩ := HN.out.node.cells
    obtain ⟨x0, x1, x2, x3, x4, x5, x6, x7, x8, x9, x10⟩ := oLc.cells
    obtain ⟨y0, y1, y2, yf⟩ := ob_cells3 oDc
    clear oLc oDc
    cases g
    · obtain ⟨t, ht⟩ : ∃ t, t = n.cache.tok l.block := ⟨_, rfl⟩
      obtain ⟨⟨rc, ro, rd⟩, hr⟩ : ∃ r, r = reply n.c.policy (n.cache.tok l.block) l.write d := ⟨_, rfl⟩
      have HGet := Lib.hid (fun (V : World) (hV : CacheAt V a.lp n.cache FC) => Get_calls l.block hV)
      have HRep := Lib.hid (fun V => Reply_calls n.c.policy (n.cache.tok l.block) l.write d V)
      have HTake := Lib.hid (fun (V : World) (hV : CacheAt V a.lp n.cache FC) => Take_calls l.block rc ro rd hV HB.out)
      obtain ⟨tk, htk⟩ : ∃ t, t = n.cache.take l.block rc ro rd := ⟨_, rfl⟩
      rw [← hr] at HG HRep
      rw [← ht] at HGet HRep
      simp only [← htk] at HG HTake
      simp only [Bundle.val, Bundle.cells, Draws.val, Draws.cells] at HGet HRep HTake
      clear ht hr htk
      go_upto_region 3 with fail
      go_cut [10, 11, 12] (fun s10 s11 s12 wx => s10 = .int .i64 rc ∧ s11 = .bool ro ∧ s12 = .bool rd ∧ Below wc.heap.size wc wx)
      case first =>
        have hS : wc.cell? ⟨a.p, 8, none⟩ = some (.int .i64 n.c.policy) ∧ wc.cell? ⟨a.p, 10, none⟩ = some (.pointer (some ⟨a.lp, 0, none⟩)) ∧ wc.cell? ⟨w.heap.size, 3, none⟩ = some (.int .i64 l.block) ∧ wc.cell? ⟨w.heap.size, 6, none⟩ = some (.bool l.write) ∧ wc.cell? ⟨w.heap.size + 1, 0, none⟩ = some (.int .i64 d.d0) ∧ wc.cell? ⟨w.heap.size + 1, 1, none⟩ = some (.int .i64 d.d1) ∧ wc.cell? ⟨w.heap.size + 1, 2, none⟩ = some (.int .i64 d.d2) := ⟨c8, c10, x3, x6, y0, y1, y2⟩
        clear c0 c1 c2 c3 c4 c5 c6 c7 c8 c9 c10 c11 c12 c13 c14 cf x0 x1 x2 x3 x4 x5 x6 x7 x8 x9 x10 y0 y1 y2 yf
        go_region_held3 (fun V => V.cell? ⟨a.p, 8, none⟩ = some (.int .i64 n.c.policy) ∧ V.cell? ⟨a.p, 10, none⟩ = some (.pointer (some ⟨a.lp, 0, none⟩)) ∧ V.cell? ⟨w.heap.size, 3, none⟩ = some (.int .i64 l.block) ∧ V.cell? ⟨w.heap.size, 6, none⟩ = some (.bool l.write) ∧ V.cell? ⟨w.heap.size + 1, 0, none⟩ = some (.int .i64 d.d0) ∧ V.cell? ⟨w.heap.size + 1, 1, none⟩ = some (.int .i64 d.d1) ∧ V.cell? ⟨w.heap.size + 1, 2, none⟩ = some (.int .i64 d.d2)) (first | with_reducible assumption | (refine kept_7 (S := fun _ => False) ?_ (by simp) hS; (repeat (first | with_reducible exact Chg.refl _ _ | with_reducible exact chg0 | with_reducible refine Chg.drewN ?_ _ | with_reducible refine Chg.drew ?_ | with_reducible refine Chg.alloc ?_ _ | with_reducible refine Chg.setCell ?_ _ _ (by first | (simp; done) | omega | (simp; omega)) | with_reducible refine Chg.setBlock ?_ _ _ (by first | (simp; done) | omega | (simp; omega)) | exact Chg.refl _ _)); done) | fail) (first
          | (go_at_call 92; refine (HGet.out _ (HN.out.node.cache.below (Chg.below (by repeat (first | with_reducible exact Chg.refl _ _ | with_reducible exact chg0 | with_reducible refine Chg.drewN ?_ _ | with_reducible refine Chg.drew ?_ | with_reducible refine Chg.alloc ?_ _ | with_reducible refine Chg.setCell ?_ _ _ (by first | (simp; done) | omega | (simp; omega)) | with_reducible refine Chg.setBlock ?_ _ _ (by first | (simp; done) | omega | (simp; omega)) | exact Chg.refl _ _))))).mono ?_; rintro e w2 ⟨rfl, hb2⟩; have hS := kept_7 (S := fun _ => False) (Chg.of_below hb2) (by simp) (by first | with_reducible assumption | (refine kept_7 (S := fun _ => False) ?_ (by simp) hS; (repeat (first | with_reducible exact Chg.refl _ _ | with_reducible exact chg0 | with_reducible refine Chg.drewN ?_ _ | with_reducible refine Chg.drew ?_ | with_reducible refine Chg.alloc ?_ _ | with_reducible refine Chg.setCell ?_ _ _ (by first | (simp; done) | omega | (simp; omega)) | with_reducible refine Chg.setBlock ?_ _ _ (by first | (simp; done) | omega | (simp; omega)) | exact Chg.refl _ _)); done) | fail); have HB2 := Lib.hid (below_trans (Chg.below (w := wc) (by repeat (first | with_reducible exact Chg.refl _ _ | with_reducible exact chg0 | with_reducible refine Chg.drewN ?_ _ | with_reducible refine Chg.drew ?_ | with_reducible refine Chg.alloc ?_ _ | with_reducible refine Chg.setCell ?_ _ _ (by first | (simp; done) | omega | (simp; omega)) | with_reducible refine Chg.setBlock ?_ _ _ (by first | (simp; done) | omega | (simp; omega)) | exact Chg.refl _ _))) hb2); clear hb2)
          | (go_at_call 91; refine (HRep.out _).mono ?_; rintro e w3 ⟨rfl, hb3⟩; have hS := kept_7 (S := fun _ => False) (Chg.of_below hb3) (by simp) (by first | with_reducible assumption | (refine kept_7 (S := fun _ => False) ?_ (by simp) hS; (repeat (first | with_reducible exact Chg.refl _ _ | with_reducible exact chg0 | with_reducible refine Chg.drewN ?_ _ | with_reducible refine Chg.drew ?_ | with_reducible refine Chg.alloc ?_ _ | with_reducible refine Chg.setCell ?_ _ _ (by first | (simp; done) | omega | (simp; omega)) | with_reducible refine Chg.setBlock ?_ _ _ (by first | (simp; done) | omega | (simp; omega)) | exact Chg.refl _ _)); done) | fail); have HB3 := Lib.hid (below_trans HB2.out (below_trans (Chg.below (w := w2) (by repeat (first | with_reducible exact Chg.refl _ _ | with_reducible exact chg0 | with_reducible refine Chg.drewN ?_ _ | with_reducible refine Chg.drew ?_ | with_reducible refine Chg.alloc ?_ _ | with_reducible refine Chg.setCell ?_ _ _ (by first | (simp; done) | omega | (simp; omega)) | with_reducible refine Chg.setBlock ?_ _ _ (by first | (simp; done) | omega | (simp; omega)) | exact Chg.refl _ _))) hb3)); clear hb3)
          | fail)
        all_goals (go_wp2_with fail)
        all_goals go_meet
        all_goals exact ⟨rfl, rfl, rfl, below_trans HB3.out (Chg.below (by repeat (first | with_reducible exact Chg.refl _ _ | with_reducible exact chg0 | with_reducible refine Chg.drewN ?_ _ | with_reducible refine Chg.drew ?_ | with_reducible refine Chg.alloc ?_ _ | with_reducible refine Chg.setCell ?_ _ _ (by first | (simp; done) | omega | (simp; omega)) | with_reducible refine Chg.setBlock ?_ _ _ (by first | (simp; done) | omega | (simp; omega)) | exact Chg.refl _ _)))⟩
      case rest =>
        obtain ⟨rfl, rfl, rfl, hbd⟩ := hcut
        have HNd := Lib.hid (HN.out.below hbd)
        have HMd := Lib.hid (HM.out.trans (Moves.none (Chg.of_below hbd)))
        have oLd := OL.out.step hbd
        have OLd := Lib.hid oLd
        have ldd : w.heap.size + 1 < wc.heap.size := Nat.lt_of_lt_of_le lkc hbd.size
        have ldd0 : w.heap.size < wc.heap.size := by omega
        have HLd := Lib.hid HNd.out.lt
        have nF1 : ¬ noFp a FC q v1 v2 wc.heap.size := fun hf => absurd (HLd.out _ hf) (Nat.lt_irrefl _)
        have nFk : ¬ FC w.heap.size := fun hf => NB.out (.inl (.inr hf))
        have HNP := Lib.hid (HNd.out.node.apart a.p (by simp [NAddr.list]))
        clear c0 c1 c2 c3 c4 c5 c6 c7 c8 c9 c10 c11 c12 c13 c14 cf x0 x1 x2 x3 x4 x5 x6 x7 x8 x9 x10 y0 y1 y2 yf cl OL1 OD1 HN1 HM1
        obtain ⟨c0, c1, c2, c3, c4, c5, c6, c7, c8, c9, c10, c11, c12, c13, c14, cf, cl⟩ := HNd.out.node.cells
        obtain ⟨x0, x1, x2, x3, x4, x5, x6, x7, x8, x9, x10⟩ := oLd.cells
        have lw := HMd.out.chg.size
        clear hbd oLd HGet HRep
        go_upto_region 4 with fail
        go_cut [13] (fun s13 wx => ∃ k FC', s13 = .pointer (some ⟨k, 0, none⟩) ∧ NO wx a { n with cache := tk.1 } FC' q v1 v2 L D ∧ Moves w wx (noFp a FC q v1 v2) (noFp a FC' q v1 v2) ∧ ob wx k = some (.cells #[.int .i64 tk.2.count, .bool tk.2.owner, .bool tk.2.has, .int .i64 tk.2.data] 42 (0, 0)) ∧ ¬ noFp a FC' q v1 v2 k ∧ lOb wx w.heap.size l ∧ ¬ noFp a FC' q v1 v2 w.heap.size)
        case first =>
          have hS : wc.cell? ⟨a.p, 10, none⟩ = some (.pointer (some ⟨a.lp, 0, none⟩)) ∧ wc.cell? ⟨w.heap.size, 3, none⟩ = some (.int .i64 l.block) := ⟨c10, x3⟩
          clear c0 c1 c2 c3 c4 c5 c6 c7 c8 c9 c10 c11 c12 c13 c14 cf x0 x1 x2 x3 x4 x5 x6 x7 x8 x9 x10
          have w2h : True := trivial
          go_region_held3 (fun V => V.cell? ⟨a.p, 10, none⟩ = some (.pointer (some ⟨a.lp, 0, none⟩)) ∧ V.cell? ⟨w.heap.size, 3, none⟩ = some (.int .i64 l.block)) (first | with_reducible assumption | (refine kept_2 (S := fun _ => False) ?_ (by simp) hS; (repeat (first | with_reducible exact Chg.refl _ _ | with_reducible exact chg0 | with_reducible refine Chg.drewN ?_ _ | with_reducible refine Chg.drew ?_ | with_reducible refine Chg.alloc ?_ _ | with_reducible refine Chg.setCell ?_ _ _ (by first | (simp; done) | omega | (simp; omega)) | with_reducible refine Chg.setBlock ?_ _ _ (by first | (simp; done) | omega | (simp; omega)) | exact Chg.refl _ _)); done) | (refine keptAt_2 wc.heap.size ?_ (by (simp only [ne_eq]; omega)) hS; (repeat (first | with_reducible exact Chg.refl _ _ | with_reducible refine Chg.drewN ?_ _ | with_reducible refine Chg.drew ?_ | with_reducible refine Chg.alloc ?_ _ | with_reducible refine Chg.setCell ?_ _ _ (fun _ => rfl))); done) | fail) (first
            | (go_at_call 93; refine (HTake.out _ (HNd.out.node.cache.below (Chg.below (by repeat (first | with_reducible exact Chg.refl _ _ | with_reducible exact chg0 | with_reducible refine Chg.drewN ?_ _ | with_reducible refine Chg.drew ?_ | with_reducible refine Chg.alloc ?_ _ | with_reducible refine Chg.setCell ?_ _ _ (by first | (simp; done) | omega | (simp; omega)) | with_reducible refine Chg.setBlock ?_ _ _ (by first | (simp; done) | omega | (simp; omega)) | exact Chg.refl _ _))))).mono ?_; rintro e w3 ⟨rfl, FC3, hC3, m3⟩; have hS := kept_2 m3.chg ⟨HNP.out, nFk⟩ (by first | with_reducible assumption | (refine kept_2 (S := fun _ => False) ?_ (by simp) hS; (repeat (first | with_reducible exact Chg.refl _ _ | with_reducible exact chg0 | with_reducible refine Chg.drewN ?_ _ | with_reducible refine Chg.drew ?_ | with_reducible refine Chg.alloc ?_ _ | with_reducible refine Chg.setCell ?_ _ _ (by first | (simp; done) | omega | (simp; omega)) | with_reducible refine Chg.setBlock ?_ _ _ (by first | (simp; done) | omega | (simp; omega)) | exact Chg.refl _ _)); done) | fail); have hQ := NO.cacheV m3 hC3 HNd.out (Chg.below (by repeat (first | with_reducible exact Chg.refl _ _ | with_reducible exact chg0 | with_reducible refine Chg.drewN ?_ _ | with_reducible refine Chg.drew ?_ | with_reducible refine Chg.alloc ?_ _ | with_reducible refine Chg.setCell ?_ _ _ (by first | (simp; done) | omega | (simp; omega)) | with_reducible refine Chg.setBlock ?_ _ _ (by first | (simp; done) | omega | (simp; omega)) | exact Chg.refl _ _))); (first | (have hZ3 : ob w3 wc.heap.size = some (.cells #[.int .i64 0, .bool false, .bool false, .int .i64 0] 42 (0, 0)) ∧ _ := hQ.2.1.aside (by (first | (simp [go_sem]; done) | fail)) nF1; obtain ⟨z0, z1, z2, z3, zf⟩ := ob_cells4 hZ3.1; have lz3 := ob_lt hZ3.1; have HZ3 := Lib.hid hZ3; clear hZ3) | skip); have HQ := Lib.hid hQ; clear hQ; clear hC3 m3)
            | fail)
          all_goals (go_wp2_with fail)
          all_goals go_meet
          all_goals first
            | exact ⟨_, FC3, rfl, HQ.out.1.below (Chg.below (by repeat (first | with_reducible exact Chg.refl _ _ | with_reducible exact chg0 | with_reducible refine Chg.drewN ?_ _ | with_reducible refine Chg.drew ?_ | with_reducible refine Chg.alloc ?_ _ | with_reducible refine Chg.setCell ?_ _ _ (by first | (simp; done) | omega | (simp; omega)) | with_reducible refine Chg.setBlock ?_ _ _ (by first | (simp; done) | omega | (simp; omega)) | exact Chg.refl _ _))), HMd.out.trans (HQ.out.2.2.trans (Moves.none (by repeat (first | with_reducible exact Chg.refl _ _ | with_reducible exact chg0 | with_reducible refine Chg.drewN ?_ _ | with_reducible refine Chg.drew ?_ | with_reducible refine Chg.alloc ?_ _ | with_reducible refine Chg.setCell ?_ _ _ (by first | (simp; done) | omega | (simp; omega)) | with_reducible refine Chg.setBlock ?_ _ _ (by first | (simp; done) | omega | (simp; omega)) | exact Chg.refl _ _)))), by simp [go_sem], fun hf => Nat.lt_irrefl _ (HQ.out.1.lt _ hf), Chg.ob (S := fun _ => False) (by repeat (first | with_reducible exact Chg.refl _ _ | with_reducible exact chg0 | with_reducible refine Chg.drewN ?_ _ | with_reducible refine Chg.drew ?_ | with_reducible refine Chg.alloc ?_ _ | with_reducible refine Chg.setCell ?_ _ _ (by first | (simp; done) | omega | (simp; omega)) | with_reducible refine Chg.setBlock ?_ _ _ (by first | (simp; done) | omega | (simp; omega)) | exact Chg.refl _ _)) (HQ.out.2.2.aside OLd.out NB.out).1 (fun h => h), (HQ.out.2.2.aside OLd.out NB.out).2⟩
            | exact ⟨_, FC3, rfl, (HQ.out.1.fin (HMd.out.trans HQ.out.2.2) HZ3.out.2 (by omega) (by (repeat (first | with_reducible exact Chg.refl _ _ | with_reducible refine Chg.drewN ?_ _ | with_reducible refine Chg.drew ?_ | with_reducible refine Chg.alloc ?_ _ | with_reducible refine Chg.setCell ?_ _ _ (fun _ => rfl))))).1, (HQ.out.1.fin (HMd.out.trans HQ.out.2.2) HZ3.out.2 (by omega) (by (repeat (first | with_reducible exact Chg.refl _ _ | with_reducible refine Chg.drewN ?_ _ | with_reducible refine Chg.drew ?_ | with_reducible refine Chg.alloc ?_ _ | with_reducible refine Chg.setCell ?_ _ _ (fun _ => rfl))))).2, by simp [go_sem, HZ3.out.1, lz3, setAt], HZ3.out.2, Chg.ob (S := fun j => j = wc.heap.size) (by (repeat (first | with_reducible exact Chg.refl _ _ | with_reducible refine Chg.drewN ?_ _ | with_reducible refine Chg.drew ?_ | with_reducible refine Chg.alloc ?_ _ | with_reducible refine Chg.setCell ?_ _ _ (fun _ => rfl)))) (HQ.out.2.2.aside OLd.out NB.out).1 (by omega), (HQ.out.2.2.aside OLd.out NB.out).2⟩
            | fail
        case rest =>
          obtain ⟨k, FC', rfl, hR4, hM4, ho4, hn4, oL4, nL4⟩ := hcut
          have HR4 := Lib.hid hR4
          have HM4 := Lib.hid hM4
          have HO4 := Lib.hid ho4
          have HN4 := Lib.hid hn4
          have OL4 := Lib.hid oL4
          have NL4 := Lib.hid nL4
          clear c0 c1 c2 c3 c4 c5 c6 c7 c8 c9 c10 c11 c12 c13 c14 cf x0 x1 x2 x3 x4 x5 x6 x7 x8 x9 x10 cl
          obtain ⟨c0, c1, c2, c3, c4, c5, c6, c7, c8, c9, c10, c11, c12, c13, c14, cf, cl⟩ := hR4.node.cells
          obtain ⟨x0, x1, x2, x3, x4, x5, x6, x7, x8, x9, x10⟩ := oL4.cells
          obtain ⟨z0, z1, z2, z3, zf⟩ := ob_cells4 ho4
          have lz := ob_lt ho4
          have lL := ob_lt oL4
          clear hR4 hM4 ho4 hn4 oL4 nL4 HTake
          obtain ⟨tc, tb⟩ := tk
          by_cases q1 : 0 < tb.count
          · have q1' : decide (0 < tb.count) = true := by simpa using q1
            have Q1 := Lib.hid q1
            clear q1
            go_wp2_with fail
            have HT5 := Lib.hid (fun V => LTokens_calls n.id (l.src) (l.block) (tb) V)
            simp only [Bundle.val, Bundle.cells] at HT5
            have hS : wc.cell? ⟨a.p, 9, none⟩ = some (.int .i64 n.id) ∧ wc.cell? ⟨w.heap.size, 1, none⟩ = some (.int .i64 l.src) ∧ wc.cell? ⟨w.heap.size, 3, none⟩ = some (.int .i64 l.block) ∧ wc.cell? ⟨k, 0, none⟩ = some (.int .i64 tb.count) ∧ wc.cell? ⟨k, 1, none⟩ = some (.bool tb.owner) ∧ wc.cell? ⟨k, 2, none⟩ = some (.bool tb.has) ∧ wc.cell? ⟨k, 3, none⟩ = some (.int .i64 tb.data) := ⟨c9, x1, x3, z0, z1, z2, z3⟩
            clear c0 c1 c2 c3 c4 c5 c6 c7 c8 c9 c10 c11 c12 c13 c14 cf x0 x1 x2 x3 x4 x5 x6 x7 x8 x9 x10 z0 z1 z2 z3 zf
            go_upto_region 6 with fail
            go_region_held3 (fun V => V.cell? ⟨a.p, 9, none⟩ = some (.int .i64 n.id) ∧ V.cell? ⟨w.heap.size, 1, none⟩ = some (.int .i64 l.src) ∧ V.cell? ⟨w.heap.size, 3, none⟩ = some (.int .i64 l.block) ∧ V.cell? ⟨k, 0, none⟩ = some (.int .i64 tb.count) ∧ V.cell? ⟨k, 1, none⟩ = some (.bool tb.owner) ∧ V.cell? ⟨k, 2, none⟩ = some (.bool tb.has) ∧ V.cell? ⟨k, 3, none⟩ = some (.int .i64 tb.data)) (first | with_reducible assumption | (refine kept_7 (S := fun _ => False) ?_ (by simp) hS; (repeat (first | with_reducible exact Chg.refl _ _ | with_reducible exact chg0 | with_reducible refine Chg.drewN ?_ _ | with_reducible refine Chg.drew ?_ | with_reducible refine Chg.alloc ?_ _ | with_reducible refine Chg.setCell ?_ _ _ (by first | (simp; done) | omega | (simp; omega)) | with_reducible refine Chg.setBlock ?_ _ _ (by first | (simp; done) | omega | (simp; omega)) | exact Chg.refl _ _)); done) | fail) (first
              | (go_at_call 87; refine (HT5.out _).mono ?_; rintro e w5 ⟨rfl, hb5⟩; have hS := kept_7 (S := fun _ => False) (Chg.of_below hb5) (by simp) (by first | with_reducible assumption | (refine kept_7 (S := fun _ => False) ?_ (by simp) hS; (repeat (first | with_reducible exact Chg.refl _ _ | with_reducible exact chg0 | with_reducible refine Chg.drewN ?_ _ | with_reducible refine Chg.drew ?_ | with_reducible refine Chg.alloc ?_ _ | with_reducible refine Chg.setCell ?_ _ _ (by first | (simp; done) | omega | (simp; omega)) | with_reducible refine Chg.setBlock ?_ _ _ (by first | (simp; done) | omega | (simp; omega)) | exact Chg.refl _ _)); done) | fail); have HB5 := Lib.hid (below_trans (Chg.below (w := wc) (by repeat (first | with_reducible exact Chg.refl _ _ | with_reducible exact chg0 | with_reducible refine Chg.drewN ?_ _ | with_reducible refine Chg.drew ?_ | with_reducible refine Chg.alloc ?_ _ | with_reducible refine Chg.setCell ?_ _ _ (by first | (simp; done) | omega | (simp; omega)) | with_reducible refine Chg.setBlock ?_ _ _ (by first | (simp; done) | omega | (simp; omega)) | exact Chg.refl _ _))) hb5); clear hb5; simp only [Letter.val, Letter.cells, Letter.tok])
              | (go_at_call 50; have hb6 := Lib.hid (below_trans HB5.out (Chg.below (by repeat (first | with_reducible exact Chg.refl _ _ | with_reducible exact chg0 | with_reducible refine Chg.drewN ?_ _ | with_reducible refine Chg.drew ?_ | with_reducible refine Chg.alloc ?_ _ | with_reducible refine Chg.setCell ?_ _ _ (by first | (simp; done) | omega | (simp; omega)) | with_reducible refine Chg.setBlock ?_ _ _ (by first | (simp; done) | omega | (simp; omega)) | exact Chg.refl _ _)))); refine (NO.send (Letter.tok n.id (l.src) (l.block) (tb)) (HR4.out.below hb6.out) (by omega)).mono ?_; rintro e w6 ⟨rfl, v3, hR6, m6⟩; have hS : w6.cell? ⟨a.p, 9, none⟩ = some (.int .i64 n.id) ∧ w6.cell? ⟨w.heap.size, 1, none⟩ = some (.int .i64 l.src) ∧ w6.cell? ⟨w.heap.size, 3, none⟩ = some (.int .i64 l.block) ∧ w6.cell? ⟨k, 0, none⟩ = some (.int .i64 tb.count) ∧ w6.cell? ⟨k, 1, none⟩ = some (.bool tb.owner) ∧ w6.cell? ⟨k, 2, none⟩ = some (.bool tb.has) ∧ w6.cell? ⟨k, 3, none⟩ = some (.int .i64 tb.data) := ⟨hR6.node.cells.2.2.2.2.2.2.2.2.2.1, cell_ob (m6.aside (ob_step hb6.out OL4.out) NL4.out).1 1, cell_ob (m6.aside (ob_step hb6.out OL4.out) NL4.out).1 3, cell_ob (m6.aside (ob_step hb6.out HO4.out) HN4.out).1 0, cell_ob (m6.aside (ob_step hb6.out HO4.out) HN4.out).1 1, cell_ob (m6.aside (ob_step hb6.out HO4.out) HN4.out).1 2, cell_ob (m6.aside (ob_step hb6.out HO4.out) HN4.out).1 3⟩; have HR6 := Lib.hid hR6; have HM6 := Lib.hid (HM4.out.trans ((Moves.none (Chg.of_below hb6.out)).trans m6)); clear hR6 m6)
              | fail)
            all_goals (go_wp2_with fail)
            all_goals
              go_end0
              rw [HG.out, if_neg (by simp)]
              have ht : tokL n.id l.src l.block tb = [Letter.tok n.id l.src l.block tb] := by unfold tokL; rw [if_pos Q1.out]
              refine ⟨rfl, _, ?_, HM6.out.trans (Moves.none (by repeat (first | with_reducible exact Chg.refl _ _ | with_reducible exact chg0 | with_reducible refine Chg.drewN ?_ _ | with_reducible refine Chg.drew ?_ | with_reducible refine Chg.alloc ?_ _ | with_reducible refine Chg.setCell ?_ _ _ (by first | (simp; done) | omega | (simp; omega)) | with_reducible refine Chg.setBlock ?_ _ _ (by first | (simp; done) | omega | (simp; omega)) | exact Chg.refl _ _)))⟩
              simp only [ht]
              exact (HR6.out.below (Chg.below (by repeat (first | with_reducible exact Chg.refl _ _ | with_reducible exact chg0 | with_reducible refine Chg.drewN ?_ _ | with_reducible refine Chg.drew ?_ | with_reducible refine Chg.alloc ?_ _ | with_reducible refine Chg.setCell ?_ _ _ (by first | (simp; done) | omega | (simp; omega)) | with_reducible refine Chg.setBlock ?_ _ _ (by first | (simp; done) | omega | (simp; omega)) | exact Chg.refl _ _)))).run
          · have q1' : decide (0 < tb.count) = false := by simpa using q1
            have Q1 := Lib.hid q1
            clear q1
            go_wp2_with fail
            go_end0
            rw [HG.out, if_neg (by simp)]
            have ht : tokL n.id l.src l.block tb = [] := by unfold tokL; rw [if_neg (by have := Q1.out; omega)]
            refine ⟨rfl, _, ?_, HM4.out⟩
            simp only [ht, List.append_nil]
            exact HR4.out.run
    · go_wp2_with fail
      refine bodyPost_ret (v := .tuple #[]) (results_none rfl _ _ _) rfl ?_
      rw [HG.out, if_pos (by trivial)]
      exact ⟨rfl, _, by simpa using HN.out.run, HM.out⟩
end
end Go.Proofs.YtchlioikkhnidaaGreat
