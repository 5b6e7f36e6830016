/-
  The program's cache: New, Absorb.
-/
import Derived.Test.YtocnhmakgbdbfaaCa5
import Derived.Deep.RegionLaw
namespace Go.Proofs.Ytocnhmakgbdbfaa
open Go.RowKit Go.Sort Go.ChangeShapes Go.WideShapes Go.ChangeAt
open Go.ChangeMaps (setBlock)
set_option linter.unusedVariables false
set_option linter.unusedSimpArgs false

theorem CacheNew_calls (a b : Int) (w : World) : Calls Try.prog 26 #[.int .i64 a, .int .i64 b] w fun e w' => ∃ p F, e = .returned (.pointer (some ⟨p, 0, none⟩)) ∧ CacheAt w' p (CacheM.new a b) F ∧ (∀ j, F j → w.heap.size ≤ j) ∧ Below w.heap.size w w' := by
  have hmm := @run_makeMap Try.prog
  go_enter Try.func26, Try.ntmps26
  go_wp2_with fail
  refine (LinesNew_calls a b _).mono ?_
  rintro e w1 ⟨lp, FL, rfl, h1, h2, h3⟩
  go_wp2_with fail
  go_ret
  have s1 := h3.size
  have hlt := fun j (hj : FL j) => h1.fin hj
  refine ⟨w1.heap.size + 1, fun j => j = w1.heap.size + 1 ∨ j = w1.heap.size ∨ FL j, rfl, ⟨lp, w1.heap.size, .map #[] 0, fun _ => none, FL, ⟨?_, h1.below (Chg.below (by repeat (first | with_reducible exact Chg.refl _ _ | with_reducible exact chg0 | with_reducible refine Chg.drewN ?_ _ | with_reducible refine Chg.drew ?_ | with_reducible refine Chg.alloc ?_ _ | with_reducible refine Chg.setCell ?_ _ _ (by first | (simp; done) | omega | (simp; omega)) | with_reducible refine Chg.setBlock ?_ _ _ (by first | (simp; done) | omega | (simp; omega)) | exact Chg.refl _ _))), ?_, MapObj.empty 0, ?_, ?_⟩, ?_, CacheM.new_ok a b, fun _ h => h, ?_⟩, ?_, below_trans h3 (Chg.below (by repeat (first | with_reducible exact Chg.refl _ _ | with_reducible exact chg0 | with_reducible refine Chg.drewN ?_ _ | with_reducible refine Chg.drew ?_ | with_reducible refine Chg.alloc ?_ _ | with_reducible refine Chg.setCell ?_ _ _ (by first | (simp; done) | omega | (simp; omega)) | with_reducible refine Chg.setBlock ?_ _ _ (by first | (simp; done) | omega | (simp; omega)) | exact Chg.refl _ _)))⟩
  · simp [go_sem]
  · simp [go_sem]
  · exact fun h => by have := hlt _ h; omega
  · exact fun h => by have := hlt _ h; omega
  · intro k
    show none = if 0 < Bundle.none.count then some Bundle.none.val else none
    rw [if_neg CacheM.none_pos]
  · rintro j (rfl | rfl | hj)
    · simp
    · simp <;> omega
    · have := hlt j hj
      simp <;> omega
  · rintro j (rfl | rfl | hj)
    · omega
    · omega
    · exact h2 j hj

section
variable {w : World} {p : Nat} {c : CacheM} {F : Nat → Prop}
set_option maxHeartbeats 8000000 in
set_option maxRecDepth 20000 in
theorem Absorb_calls (block : Int) (b : Bundle) (pinned : Int) (h : CacheAt w p c F) (g : b.Good) (hb : (c.tok block).count + b.count ≤ 1000000000000) :
    Calls Try.prog 27 #[.pointer (some ⟨p, 0, none⟩), .int .i64 block, b.val, .int .i64 pinned] w fun e w' =>
      e = .returned (.tuple #[(c.absorb block b pinned).2.1.val, .bool (c.absorb block b pinned).2.2]) ∧ ∃ F', CacheAt w' p (c.absorb block b pinned).1 F' ∧ Moves w w' F F' := by
  have ok := h.ok
  have HA := Lib.hid h
  have hnone : ∀ w', Chg (fun _ => False) w w' → ∃ F', CacheAt w' p c F' ∧ Moves w w' F F' := fun w' hc => ⟨F, h.chg hc (fun _ _ h => h), Moves.none hc⟩
  have HN := Lib.hid hnone
  have hab : c.absorb block b pinned = if b.count < 1 then (c, Line.none, false) else if c.lines.has block = true then ((c.use block).set block ((c.tok block).join b), Line.none, false)
    else if (c.lines.victim block pinned).2 = false then (c, ⟨block, b⟩, true)
    else if c.lines.has (c.lines.victim block pinned).1 = true then ((c.set (c.lines.victim block pinned).1 Bundle.none).lay block b, ⟨(c.lines.victim block pinned).1, c.tok (c.lines.victim block pinned).1⟩, true)
    else (c.lay block b, Line.none, false) := rfl
  have HAB := Lib.hid hab
  obtain ⟨lp, tb, o, f, FL, r, ht, _, hF, hFl⟩ := h
  have lt' := ob_lt r.map
  have lp' := ob_lt r.at_
  have hne := r.ne
  have c0 : w.cell? ⟨p, 0, none⟩ = some (.pointer (some ⟨lp, 0, none⟩)) := cell_ob r.at_ 0
  have R := Lib.hid r
  have HT := Lib.hid ht
  have HF := Lib.hid hF
  have HFl := Lib.hid hFl
  have OK := Lib.hid ok
  have G := Lib.hid g
  clear r ht ok hF hFl hab hnone
  by_cases q1 : b.count < 1
  · have q1' : decide (b.count < 1) = true := by simpa using q1
    rw [if_pos q1] at HAB
    clear g
    simp only [Bundle.val, Bundle.cells, Line.val, Line.cells]
    go_enter Try.func27, Try.ntmps27
    go_wp2_with fail
    (try (go_big_region; go_wp2_with fail))
    (try simp only [Exit.inBlock, Exit.then])
    refine bodyRet2 _ _ rfl rfl (ResIs.row Try.underlying53 rfl (by kernel_rfl) rfl (by simp [go_sem]; exact ⟨rfl, rfl, rfl⟩)) ResIs.tmp ?_
    rw [HAB.out]
    exact ⟨rfl, HN.out _ (by repeat (first | with_reducible exact Chg.refl _ _ | with_reducible exact chg0 | with_reducible refine Chg.drewN ?_ _ | with_reducible refine Chg.drew ?_ | with_reducible refine Chg.alloc ?_ _ | with_reducible refine Chg.setCell ?_ _ _ (by first | (simp; done) | omega | (simp; omega)) | with_reducible refine Chg.setBlock ?_ _ _ (by first | (simp; done) | omega | (simp; omega)) | exact Chg.refl _ _))⟩
  have q1' : decide (b.count < 1) = false := by simpa using q1
  have Q1 := Lib.hid q1
  rw [if_neg q1] at HAB
  clear q1 g
  simp only [Bundle.val, Bundle.cells, Line.val, Line.cells]
  go_enter Try.func27, Try.ntmps27
  go_wp2_with fail
  refine (CaGo.use block ((CaGo.start R.out).same (Chg.below (by repeat (first | with_reducible exact Chg.refl _ _ | with_reducible exact chg0 | with_reducible refine Chg.drewN ?_ _ | with_reducible refine Chg.drew ?_ | with_reducible refine Chg.alloc ?_ _ | with_reducible refine Chg.setCell ?_ _ _ (by first | (simp; done) | omega | (simp; omega)) | with_reducible refine Chg.setBlock ?_ _ _ (by first | (simp; done) | omega | (simp; omega)) | exact Chg.refl _ _))))).mono ?_
  rintro e w1 ⟨rfl, FL1, hg, hmv⟩
  have hfl : ∀ j, FL j → j < w.heap.size := fun j hj => R.out.lines.fin hj
  have o0 : ob w1 w.heap.size = some (.cells #[.int .i64 b.count, .bool b.owner, .bool b.has, .int .i64 b.data] 47 (0, 0)) := hmv.chg.ob (by simp [go_sem]) (fun h => absurd (hfl _ h) (Nat.lt_irrefl _))
  have o1 : ob w1 (w.heap.size + 1) = some (.cells #[.int .i64 0, .int .i64 0, .bool false, .bool false, .int .i64 0] 53 (0, 0)) := hmv.chg.ob (by simp [go_sem]) (fun h => by have := hfl _ h; omega)
  obtain ⟨a0, a1, a2, a3, af⟩ := ob_cells4 o0
  obtain ⟨b0, b1, b2, b3, b4, bf⟩ := ob_cells5 o1
  have l0 := ob_lt o0
  have l1 := ob_lt o1
  have chw : Chg F w w1 := (Chg.trans (S' := FL) (by repeat (first | with_reducible exact Chg.refl _ _ | with_reducible exact chg0 | with_reducible refine Chg.drewN ?_ _ | with_reducible refine Chg.drew ?_ | with_reducible refine Chg.alloc ?_ _ | with_reducible refine Chg.setCell ?_ _ _ (by first | (simp; done) | omega | (simp; omega)) | with_reducible refine Chg.setBlock ?_ _ _ (by first | (simp; done) | omega | (simp; omega)) | exact Chg.refl _ _)) hmv.chg (fun _ _ h => h)).mono fun j _ hj => HF.out j (.inr (.inr hj))
  obtain ⟨k0, k1, o2, k2, hmo⟩ := hg.cells
  have HG := Lib.hid hg
  have HM := Lib.hid hmv.fresh
  have HFL := Lib.hid hfl
  have sz1 := hmv.chg.size
  clear hg hmv hfl
  have hne1 : ∀ j, j = p ∨ j = tb ∨ FL1 j → ¬ j = w.heap.size + 1 := by
    rintro j (rfl | rfl | hj) e
    · omega
    · omega
    · rcases HM.out j hj with h | h
      · have := HFL.out j h; omega
      · simp [go_sem] at h; omega
  have HNE := Lib.hid hne1
  have hn1 : w.heap.size + 1 ≠ tb := by omega
  clear hne1
  cases hh : c.lines.has block with
  | true =>
    rw [if_pos hh] at HAB
    have hlk : ∀ W : World, ob W tb = some o2 → (Instr.lookup 84 (.map (some tb)) (.int .i64 block) false).run Try.prog W = .ok (c.tok block).val W := fun W hW => by
      rw [hmo.lookup tyIB block _ W hW, HT.out.get OK.out]
    obtain ⟨o3, ho3, hup⟩ := hmo.update tyIB block ((c.tok block).join b).val tb
    have HO3 := Lib.hid ho3
    have hpos : 0 < ((c.tok block).join b).count := by
      have h1 := (OK.out.good block).pos
      have h2 := Q1.out
      show 0 < (c.tok block).count + b.count
      omega
    have oka := CacheM.absorb_ok OK.out block G.out pinned
    rw [HAB.out] at oka
    have OKA := Lib.hid oka
    have HPOS := Lib.hid hpos
    have HLN := Lib.hid (show ((c.use block).set block ((c.tok block).join b)).lines = c.lines.use block from by simp only [CacheM.set]; rw [if_pos hpos]; rfl)
    clear oka hpos
    clear ho3 hmo
    simp only [Bundle.val, Bundle.cells] at hlk hup
    go_wp2_with fail
    have lpw : p < w1.heap.size := Nat.lt_of_lt_of_le lp' (by omega)
    have ltw : tb < w1.heap.size := Nat.lt_of_lt_of_le lt' (by omega)
    go_region_law (first
      | (go_simp; go_at_call 51; refine (Join_calls (c.tok block) b _ (OK.out.good block) (by have := G.out.pos; omega) (by have := (OK.out.good block).pos; omega) G.out.pos).mono ?_; rintro e w2 ⟨rfl, hb2⟩; simp only [Bundle.val, Bundle.cells]; have ch2 := Chg.of_below (S := fun _ => False) hb2; have j1 : w2.cell? ⟨p, 1, none⟩ = some (.map (some tb)) := ch2.cell (by simpa [go_sem] using k1) (fun h => h); have j2 : ob w2 tb = some o2 := ch2.ob (by simpa [go_sem] using k2) (fun h => h); have o1' := ch2.ob (b := w.heap.size + 1) (by simpa [go_sem] using o1) (fun h => h); have ch3 : Chg (fun _ => False) w1 w2 := Chg.trans (S' := fun _ => False) (by repeat (first | with_reducible exact Chg.refl _ _ | with_reducible exact chg0 | with_reducible refine Chg.drewN ?_ _ | with_reducible refine Chg.drew ?_ | with_reducible refine Chg.alloc ?_ _ | with_reducible refine Chg.setCell ?_ _ _ (by first | (simp; done) | omega | (simp; omega)) | with_reducible refine Chg.setBlock ?_ _ _ (by first | (simp; done) | omega | (simp; omega)) | exact Chg.refl _ _)) ch2 (fun _ _ h => h); have sz2 := ch3.size; clear hb2 ch2))
    all_goals
      obtain ⟨e0, e1, e2, e3, e4, ef⟩ := ob_cells5 o1'
      have l3 := ob_lt o1'
      go_wp2_with fail
      (try simp only [Exit.inBlock, Exit.then])
      refine bodyRet2 _ _ rfl rfl (ResIs.row Try.underlying53 rfl (by kernel_rfl) rfl (by simp [go_sem, *]; exact ⟨rfl, rfl, rfl⟩)) ResIs.tmp ?_
      rw [HAB.out]
      refine ⟨rfl, CaGo.done (((HG.out.same ch3.below).put HO3.out).own (S := fun j => j = w.heap.size + 1) (by repeat (first | with_reducible exact Chg.refl _ _ | with_reducible exact chg0 | with_reducible refine Chg.drewN ?_ _ | with_reducible refine Chg.drew ?_ | with_reducible refine Chg.alloc ?_ _ | with_reducible refine Chg.setCell ?_ _ _ (by first | (simp; done) | omega | (simp; omega)) | with_reducible refine Chg.setBlock ?_ _ _ (by first | (simp; done) | omega | (simp; omega)) | exact Chg.refl _ _)) (fun j e => by omega) HNE.out) ?_ (HT.out.upd block _ HPOS.out) OKA.out HF.out HFl.out⟩
      exact HLN.out
  | false =>
    have hus : c.lines.use block = c.lines := by rw [Lines.use, if_neg (by simp [hh])]
    rw [hus] at HG
    rw [if_neg (by simp [hh])] at HAB
    go_wp2_with fail
    obtain ⟨v, hv⟩ : ∃ v, v = (c.lines.victim block pinned).1 := ⟨_, rfl⟩
    obtain ⟨vo, hvo⟩ : ∃ v, v = (c.lines.victim block pinned).2 := ⟨_, rfl⟩
    have HVV := Lib.hid hv
    have HVO := Lib.hid hvo
    rw [← hv, ← hvo] at HAB
    refine (Victim_calls block pinned (HG.out.same (Chg.below (by repeat (first | with_reducible exact Chg.refl _ _ | with_reducible exact chg0 | with_reducible refine Chg.drewN ?_ _ | with_reducible refine Chg.drew ?_ | with_reducible refine Chg.alloc ?_ _ | with_reducible refine Chg.setCell ?_ _ _ (by first | (simp; done) | omega | (simp; omega)) | with_reducible refine Chg.setBlock ?_ _ _ (by first | (simp; done) | omega | (simp; omega)) | exact Chg.refl _ _)))).lines).mono ?_
    rintro e w2 ⟨rfl, n2, rfl⟩
    rw [← hv, ← hvo]
    clear hv hvo
    cases vo with
    | false =>
      rw [if_pos rfl] at HAB
      go_wp2_with fail
      (try simp only [Exit.inBlock, Exit.then])
      refine bodyRet2 _ _ rfl rfl (ResIs.row Try.underlying53 rfl (by kernel_rfl) rfl (by simp [go_sem, *]; exact ⟨rfl, rfl, rfl⟩)) ResIs.tmp ?_
      rw [HAB.out]
      exact ⟨rfl, CaGo.done ((HG.out.same (Chg.below (by repeat (first | with_reducible exact Chg.refl _ _ | with_reducible exact chg0 | with_reducible refine Chg.drewN ?_ _ | with_reducible refine Chg.drew ?_ | with_reducible refine Chg.alloc ?_ _ | with_reducible refine Chg.setCell ?_ _ _ (by first | (simp; done) | omega | (simp; omega)) | with_reducible refine Chg.setBlock ?_ _ _ (by first | (simp; done) | omega | (simp; omega)) | exact Chg.refl _ _)))).own (w'' := _) (S := fun j => j = w.heap.size + 1) (by repeat (first | with_reducible exact Chg.refl _ _ | with_reducible exact chg0 | with_reducible refine Chg.drewN ?_ _ | with_reducible refine Chg.drew ?_ | with_reducible refine Chg.alloc ?_ _ | with_reducible refine Chg.setCell ?_ _ _ (by first | (simp; done) | omega | (simp; omega)) | with_reducible refine Chg.setBlock ?_ _ _ (by first | (simp; done) | omega | (simp; omega)) | exact Chg.refl _ _)) (fun j e => by omega) HNE.out) rfl HT.out OK.out HF.out HFl.out⟩
    | true =>
      rw [if_neg (by decide)] at HAB
      have lpw : p < w1.heap.size := Nat.lt_of_lt_of_le lp' (by omega)
      have ltw : tb < w1.heap.size := Nat.lt_of_lt_of_le lt' (by omega)
      go_wp2_with fail
      refine (Has_calls v (HG.out.same (Chg.below (by repeat (first | with_reducible exact Chg.refl _ _ | with_reducible exact chg0 | with_reducible refine Chg.drewN ?_ _ | with_reducible refine Chg.drew ?_ | with_reducible refine Chg.alloc ?_ _ | with_reducible refine Chg.setCell ?_ _ _ (by first | (simp; done) | omega | (simp; omega)) | with_reducible refine Chg.setBlock ?_ _ _ (by first | (simp; done) | omega | (simp; omega)) | exact Chg.refl _ _)))).lines).mono ?_
      rintro e w3 ⟨rfl, n3, rfl⟩
      have hac := absorb_can (c := c) OK.out (pinned := pinned) hh HVO.out.symm
      rw [← HVV.out] at hac
      cases hhv : c.lines.has v with
      | true =>
        rw [if_pos hhv] at HAB
        obtain ⟨hcan, _, hvb⟩ := hac.1 hhv
        have HCAN := Lib.hid hcan
        have HVB := Lib.hid hvb
        clear hac hcan hvb
        have fl1 : ∀ j, j = w.heap.size ∨ j = w.heap.size + 1 ∨ j = w1.heap.size → ¬ (j = tb ∨ FL1 j) := by
          rintro j (rfl | rfl | rfl) (e | hj)
          · omega
          · rcases HM.out _ hj with h | h
            · have := HFL.out _ h; omega
            · simp [go_sem] at h; omega
          · omega
          · exact HNE.out _ (.inr (.inr hj)) rfl
          · omega
          · have := HG.out.lines.fin hj; omega
        have FL1N := Lib.hid fl1
        clear fl1
        go_wp2_with fail
        refine (CaGo.lose v (c.tok v) (HG.out.same (Chg.below (by repeat (first | with_reducible exact Chg.refl _ _ | with_reducible exact chg0 | with_reducible refine Chg.drewN ?_ _ | with_reducible refine Chg.drew ?_ | with_reducible refine Chg.alloc ?_ _ | with_reducible refine Chg.setCell ?_ _ _ (by first | (simp; done) | omega | (simp; omega)) | with_reducible refine Chg.setBlock ?_ _ _ (by first | (simp; done) | omega | (simp; omega)) | exact Chg.refl _ _)))) (HT.out.get OK.out v) lose_calls).mono ?_
        rintro e w4 ⟨rfl, FL2, hg2, hch2, hfr2⟩
        have o0' : ob w4 w.heap.size = some (.cells #[.int .i64 b.count, .bool b.owner, .bool b.has, .int .i64 b.data] 47 (0, 0)) := hch2.ob (by simp [go_sem, *]) (FL1N.out _ (.inl rfl))
        have o1' : ob w4 (w.heap.size + 1) = some (.cells #[.int .i64 0, .int .i64 0, .bool false, .bool false, .int .i64 0] 53 (0, 0)) := hch2.ob (by simp [go_sem, *]) (FL1N.out _ (.inr (.inl rfl)))
        have o2' : ob w4 w1.heap.size = some (.cells #[.int .i64 0, .int .i64 0, .bool false, .bool false, .int .i64 0] 53 (0, 0)) := hch2.ob (by simp [go_sem, *]) (FL1N.out _ (.inr (.inr rfl)))
        obtain ⟨a0', a1', a2', a3', af'⟩ := ob_cells4 o0'
        obtain ⟨b0', b1', b2', b3', b4', bf'⟩ := ob_cells5 o1'
        obtain ⟨d0', d1', d2', d3', d4', df'⟩ := ob_cells5 o2'
        have l0' := ob_lt o0'
        have l1' := ob_lt o1'
        have l2' := ob_lt o2'
        have hfl2 : ∀ j, j = p ∨ j = tb ∨ FL2 j → j ≠ w.heap.size ∧ j ≠ w.heap.size + 1 ∧ j ≠ w1.heap.size := by
          rintro j (rfl | rfl | hj)
          · omega
          · omega
          · rcases hfr2 j hj with h | h
            · exact ⟨fun e => FL1N.out j (.inl e) (.inr h), fun e => FL1N.out j (.inr (.inl e)) (.inr h), fun e => FL1N.out j (.inr (.inr e)) (.inr h)⟩
            · simp [go_sem] at h; omega
        have HFL2 := Lib.hid hfl2
        have HG2 := Lib.hid hg2
        obtain ⟨k0', k1', o4, k2', hmo4⟩ := hg2.cells
        clear hg2 hch2 hfr2 hfl2 a0 a1 a2 a3 af b0 b1 b2 b3 b4 bf
        simp only [Bundle.val, Bundle.cells]
        go_wp2_with fail
        refine (CaGo.add block (HG2.out.own (S := fun j => j = w1.heap.size) (by repeat (first | with_reducible exact Chg.refl _ _ | with_reducible exact chg0 | with_reducible refine Chg.drewN ?_ _ | with_reducible refine Chg.drew ?_ | with_reducible refine Chg.alloc ?_ _ | with_reducible refine Chg.setCell ?_ _ _ (by first | (simp; done) | omega | (simp; omega)) | with_reducible refine Chg.setBlock ?_ _ _ (by first | (simp; done) | omega | (simp; omega)) | exact Chg.refl _ _)) (fun j e => by omega) (fun j hj => (HFL2.out j hj).2.2))).mono ?_
        rintro e w5 ⟨rfl, FL3, hg3, hmv3⟩
        have o0'' : ob w5 w.heap.size = some (.cells #[.int .i64 b.count, .bool b.owner, .bool b.has, .int .i64 b.data] 47 (0, 0)) := hmv3.chg.ob (by simp [go_sem, o0', o1', o2', (show w.heap.size ≠ w1.heap.size by omega)]) (fun h => (HFL2.out _ (.inr (.inr h))).1 rfl)
        have o1'' : ob w5 (w.heap.size + 1) = some (.cells #[.int .i64 0, .int .i64 0, .bool false, .bool false, .int .i64 0] 53 (0, 0)) := hmv3.chg.ob (by simp [go_sem, o0', o1', o2', (show w.heap.size + 1 ≠ w1.heap.size by omega)]) (fun h => (HFL2.out _ (.inr (.inr h))).2.1 rfl)
        have o2'' : ob w5 w1.heap.size = some (.cells #[.int .i64 v, .int .i64 (c.tok v).count, .bool (c.tok v).owner, .bool (c.tok v).has, .int .i64 (c.tok v).data] 53 (0, 0)) := hmv3.chg.ob (by simp [go_sem, o0', o1', o2', setAt]) (fun h => (HFL2.out _ (.inr (.inr h))).2.2 rfl)
        obtain ⟨x0, x1, x2, x3, xf⟩ := ob_cells4 o0''
        obtain ⟨y0, y1, y2, y3, y4, yf⟩ := ob_cells5 o1''
        obtain ⟨z0, z1, z2, z3, z4, zf⟩ := ob_cells5 o2''
        have m0 := ob_lt o0''
        have m1 := ob_lt o1''
        have m2 := ob_lt o2''
        have hfl3 : ∀ j, j = p ∨ j = tb ∨ FL3 j → j ≠ w.heap.size + 1 := by
          rintro j (rfl | rfl | hj)
          · omega
          · omega
          · rcases hmv3.fresh j hj with h | h
            · exact (HFL2.out j (.inr (.inr h))).2.1
            · simp [go_sem] at h; omega
        have HFL3 := Lib.hid hfl3
        have HG3 := Lib.hid hg3
        obtain ⟨k0'', k1'', o5, k2'', hmo5⟩ := hg3.cells
        obtain ⟨o6, ho6, hup⟩ := hmo5.update tyIB block b.val tb
        have HO6 := Lib.hid ho6
        simp only [Bundle.val, Bundle.cells] at hup
        have hq1 : w.heap.size ≠ tb := by omega
        have hq2 : w1.heap.size ≠ tb := by omega
        have hq3 : w.heap.size + 1 ≠ w1.heap.size := by omega
        have oka := CacheM.absorb_ok OK.out block G.out pinned
        rw [HAB.out] at oka
        have OKA := Lib.hid oka
        clear hg3 hmv3 hfl3 ho6 hmo5 oka a0' a1' a2' a3' af' b0' b1' b2' b3' b4' bf' d0' d1' d2' d3' d4' df'
        generalize (c.lines.rem v).can block = r3
        go_wp2_with fail
        (try (go_big_region; go_wp2_with fail))
        (try simp only [Exit.inBlock, Exit.then])
        refine bodyRet2 _ _ rfl rfl (ResIs.row Try.underlying53 rfl (by kernel_rfl) rfl (by simp [go_sem, *]; exact ⟨rfl, rfl, rfl⟩)) ResIs.tmp ?_
        rw [HAB.out]
        refine ⟨rfl, CaGo.done ((HG3.out.put HO6.out).own (S := fun j => j = w.heap.size + 1) (by repeat (first | with_reducible exact Chg.refl _ _ | with_reducible exact chg0 | with_reducible refine Chg.drewN ?_ _ | with_reducible refine Chg.drew ?_ | with_reducible refine Chg.alloc ?_ _ | with_reducible refine Chg.setCell ?_ _ _ (by first | (simp; done) | omega | (simp; omega)) | with_reducible refine Chg.setBlock ?_ _ _ (by first | (simp; done) | omega | (simp; omega)) | exact Chg.refl _ _)) (fun j e => by omega) HFL3.out) ?_ ((HT.out.del v Bundle.none CacheM.none_pos).upd block b (by have := Q1.out; omega)) OKA.out HF.out HFl.out⟩
        show ((c.set v Bundle.none).lines).add block = _
        rw [CacheM.set_none_lines]
      | false =>
        rw [if_neg (by simp [hhv])] at HAB
        have fl1 : ∀ j, j = w.heap.size ∨ j = w.heap.size + 1 ∨ j = w1.heap.size → ¬ FL1 j := by
          rintro j (rfl | rfl | rfl) hj
          · rcases HM.out _ hj with h | h
            · have := HFL.out _ h; omega
            · simp [go_sem] at h; omega
          · exact HNE.out _ (.inr (.inr hj)) rfl
          · have := HG.out.lines.fin hj; omega
        have FL1N := Lib.hid fl1
        clear fl1 hac
        go_wp2_with fail
        refine (CaGo.add block (HG.out.same (Chg.below (by repeat (first | with_reducible exact Chg.refl _ _ | with_reducible exact chg0 | with_reducible refine Chg.drewN ?_ _ | with_reducible refine Chg.drew ?_ | with_reducible refine Chg.alloc ?_ _ | with_reducible refine Chg.setCell ?_ _ _ (by first | (simp; done) | omega | (simp; omega)) | with_reducible refine Chg.setBlock ?_ _ _ (by first | (simp; done) | omega | (simp; omega)) | exact Chg.refl _ _))))).mono ?_
        rintro e w5 ⟨rfl, FL3, hg3, hmv3⟩
        have o0'' : ob w5 w.heap.size = some (.cells #[.int .i64 b.count, .bool b.owner, .bool b.has, .int .i64 b.data] 47 (0, 0)) := hmv3.chg.ob (by simp [go_sem, *]) (FL1N.out _ (.inl rfl))
        have o1'' : ob w5 (w.heap.size + 1) = some (.cells #[.int .i64 0, .int .i64 0, .bool false, .bool false, .int .i64 0] 53 (0, 0)) := hmv3.chg.ob (by simp [go_sem, *]) (FL1N.out _ (.inr (.inl rfl)))
        have o2'' : ob w5 w1.heap.size = some (.cells #[.int .i64 0, .int .i64 0, .bool false, .bool false, .int .i64 0] 53 (0, 0)) := hmv3.chg.ob (by simp [go_sem, *]) (FL1N.out _ (.inr (.inr rfl)))
        obtain ⟨x0, x1, x2, x3, xf⟩ := ob_cells4 o0''
        obtain ⟨y0, y1, y2, y3, y4, yf⟩ := ob_cells5 o1''
        obtain ⟨z0, z1, z2, z3, z4, zf⟩ := ob_cells5 o2''
        have m0 := ob_lt o0''
        have m1 := ob_lt o1''
        have m2 := ob_lt o2''
        have hfl3 : ∀ j, j = p ∨ j = tb ∨ FL3 j → j ≠ w.heap.size + 1 := by
          rintro j (rfl | rfl | hj) e
          · omega
          · omega
          · rcases hmv3.fresh j hj with h | h
            · exact FL1N.out j (.inr (.inl e)) h
            · simp [go_sem] at h; omega
        have HFL3 := Lib.hid hfl3
        have HG3 := Lib.hid hg3
        obtain ⟨k0'', k1'', o5, k2'', hmo5⟩ := hg3.cells
        obtain ⟨o6, ho6, hup⟩ := hmo5.update tyIB block b.val tb
        have HO6 := Lib.hid ho6
        simp only [Bundle.val, Bundle.cells] at hup
        have hq1 : w.heap.size ≠ tb := by omega
        have hq2 : w1.heap.size ≠ tb := by omega
        have hq3 : w.heap.size + 1 ≠ w1.heap.size := by omega
        have oka := CacheM.absorb_ok OK.out block G.out pinned
        rw [HAB.out] at oka
        have OKA := Lib.hid oka
        clear hg3 hmv3 hfl3 ho6 hmo5 oka a0 a1 a2 a3 af b0 b1 b2 b3 b4 bf
        generalize c.lines.can block = r3
        go_wp2_with fail
        (try (go_big_region; go_wp2_with fail))
        (try simp only [Exit.inBlock, Exit.then])
        refine bodyRet2 _ _ rfl rfl (ResIs.row Try.underlying53 rfl (by kernel_rfl) rfl (by simp [go_sem, *]; exact ⟨rfl, rfl, rfl⟩)) ResIs.tmp ?_
        rw [HAB.out]
        refine ⟨rfl, CaGo.done ((HG3.out.put HO6.out).own (S := fun j => j = w.heap.size + 1) (by repeat (first | with_reducible exact Chg.refl _ _ | with_reducible exact chg0 | with_reducible refine Chg.drewN ?_ _ | with_reducible refine Chg.drew ?_ | with_reducible refine Chg.alloc ?_ _ | with_reducible refine Chg.setCell ?_ _ _ (by first | (simp; done) | omega | (simp; omega)) | with_reducible refine Chg.setBlock ?_ _ _ (by first | (simp; done) | omega | (simp; omega)) | exact Chg.refl _ _)) (fun j e => by omega) HFL3.out) rfl (HT.out.upd block b (by have := Q1.out; omega)) OKA.out HF.out HFl.out⟩
end
end Go.Proofs.Ytocnhmakgbdbfaa
