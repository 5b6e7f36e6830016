/-
  What the program's Check of a letter comes to.
-/
import Derived.Test.YtchlioikkhnidaaGreatMN1
import Derived.Test.YtchlioikkhnidaaGreatMA
set_option linter.unusedVariables false
set_option linter.unusedSimpArgs false
namespace Go.Proofs.YtchlioikkhnidaaGreat
open Go.RowKit Go.Sort Go.ChangeShapes Go.WideShapes Go.ChangeAt
open Go.ChangeMaps (setBlock)
set_option linter.unusedVariables false
set_option linter.unusedSimpArgs false

def rowVal (k : Int) : Value := .agg (rowCells k).toArray
set_option maxHeartbeats 8000000 in
set_option maxRecDepth 20000 in
theorem form_calls (c : Config) (l : Letter) (w : World) (h1 : 1 ≤ l.kind) (h2 : l.kind ≤ 7) :
    Calls Tryz.prog 84 #[c.val, l.val, rowVal l.kind] w (Pure w (.bool (l.formed c))) := by
  have hk : l.kind = 1 ∨ l.kind = 2 ∨ l.kind = 3 ∨ l.kind = 4 ∨ l.kind = 5 ∨ l.kind = 6 ∨ l.kind = 7 := by omega
  have hE := fun (W : World) => end_calls c l.who false true W
  simp only [Bool.false_and, Bool.false_or, Bool.true_and] at hE
  have HE := Lib.hid hE
  clear hE h1 h2
  obtain ⟨q, hq⟩ : ∃ q, q = l.kind := ⟨_, rfl⟩
  rw [← hq] at hk
  have hform : l.formed c = ((if 4 ≤ q then decide (1 ≤ l.seq) else decide (l.seq = 0)) && (if q = 4 then isNode c l.who else decide (l.who = 0)) && (!l.write || decide (q = 2))) := by rw [hq]; rfl
  have HF := Lib.hid hform
  simp only [Letter.val, Letter.cells, Config.val, Config.cells] at HE ⊢
  rw [← hq]
  clear hform hq
  obtain ⟨b1, hb1⟩ : ∃ b, b = decide (1 ≤ l.seq) := ⟨_, rfl⟩
  obtain ⟨b2, hb2⟩ : ∃ b, b = decide (l.seq = 0) := ⟨_, rfl⟩
  obtain ⟨b3, hb3⟩ : ∃ b, b = decide (l.who = 0) := ⟨_, rfl⟩
  obtain ⟨b4, hb4⟩ : ∃ b, b = isNode c l.who := ⟨_, rfl⟩
  have e2 : (l.seq == 0) = b2 := by rw [hb2]; exact beq_int _ _
  have e3 : (l.who == 0) = b3 := by rw [hb3]; exact beq_int _ _
  rw [← hb1, ← hb2, ← hb3, ← hb4] at HF
  rw [← hb4] at HE
  have e1 := hb1.symm
  clear hb1 hb2 hb3 hb4
  rcases hk with rfl | rfl | rfl | rfl | rfl | rfl | rfl
  all_goals
    obtain ⟨wr, hw⟩ : ∃ b, b = l.write := ⟨_, rfl⟩
    rw [← hw] at HF ⊢
    clear hw
    simp only [rowVal, rowCells]
    simp
    simp at HF
    go_enter Tryz.func84, Tryz.ntmps84
    go_wp2_with (go_at_call 83; refine (HE.out _).mono ?_; rintro e w1 ⟨rfl, hb1⟩; have chg0 : Chg (fun _ => False) w w1 := Chg.of_below (below_trans (Chg.below (by repeat (first | with_reducible exact Chg.refl _ _ | with_reducible exact chg0 | with_reducible refine Chg.drewN ?_ _ | with_reducible refine Chg.drew ?_ | with_reducible refine Chg.alloc ?_ _ | with_reducible refine Chg.setCell ?_ _ _ (by first | (simp; done) | omega | (simp; omega)) | with_reducible refine Chg.setBlock ?_ _ _ (by first | (simp; done) | omega | (simp; omega)) | exact Chg.refl _ _))) hb1); have d0 : w1.cell? ⟨w.heap.size + 1 + 1, 6, none⟩ = some (.bool false) := (by rw [hb1.cell (by simp)]; simp [go_sem]); have d1 : w1.cell? ⟨w.heap.size + 1, 6, none⟩ = some (.bool wr) := (by rw [hb1.cell (by simp)]; simp [go_sem]); have d2 : w1.cell? ⟨w.heap.size + 1 + 1, 5, none⟩ = some (.bool true) := (by rw [hb1.cell (by simp)]; simp [go_sem]))
    all_goals
      go_ret
      refine pure_of ?_ (by repeat (first | with_reducible exact Chg.refl _ _ | with_reducible exact chg0 | with_reducible refine Chg.drewN ?_ _ | with_reducible refine Chg.drew ?_ | with_reducible refine Chg.alloc ?_ _ | with_reducible refine Chg.setCell ?_ _ _ (by first | (simp; done) | omega | (simp; omega)) | with_reducible refine Chg.setBlock ?_ _ _ (by first | (simp; done) | omega | (simp; omega)) | exact Chg.refl _ _))
      rw [HF.out]
      try simp_all
end Go.Proofs.YtchlioikkhnidaaGreat

/-
  What the program's Check of a letter comes to.
-/
namespace Go.Proofs.YtchlioikkhnidaaGreat
open Go.RowKit Go.Sort Go.ChangeShapes Go.WideShapes Go.ChangeAt
open Go.ChangeMaps (setBlock)
set_option linter.unusedVariables false
set_option linter.unusedSimpArgs false


theorem none_iff (b : Bundle) : b = Bundle.none ↔ b.count = 0 ∧ b.owner = false ∧ b.has = false ∧ b.data = 0 := by
  obtain ⟨a, o, h, d⟩ := b
  simp [Bundle.none]
set_option maxHeartbeats 8000000 in
set_option maxRecDepth 20000 in
theorem LCheck_calls (c : Config) (l : Letter) (w : World) : Calls Tryz.prog 36 #[c.val, l.val] w (Pure w (.int .i64 (l.err c))) := by
  by_cases hr : l.kind < 1 ∨ 7 < l.kind
  · have hR := fun W => rows_no l.kind W hr
    have HR := Lib.hid hR
    have HQ := Lib.hid hr
    clear hR hr
    simp only [Letter.val, Letter.cells, Config.val, Config.cells]
    go_enter Tryz.func36, Tryz.ntmps36
    go_wp2_with fail
    refine (HR.out _).mono ?_
    rintro e w1 ⟨rfl, hb1⟩
    have chg0 : Chg (fun _ => False) w w1 := Chg.of_below (below_trans (Chg.below (by repeat (first | with_reducible exact Chg.refl _ _ | with_reducible exact chg0 | with_reducible refine Chg.drewN ?_ _ | with_reducible refine Chg.drew ?_ | with_reducible refine Chg.alloc ?_ _ | with_reducible refine Chg.setCell ?_ _ _ (by first | (simp; done) | omega | (simp; omega)) | with_reducible refine Chg.setBlock ?_ _ _ (by first | (simp; done) | omega | (simp; omega)) | exact Chg.refl _ _))) hb1)
    go_wp2_with fail
    go_ret
    exact pure_of (by unfold Letter.err; rw [if_pos HQ.out]; rfl) (by repeat (first | with_reducible exact Chg.refl _ _ | with_reducible exact chg0 | with_reducible refine Chg.drewN ?_ _ | with_reducible refine Chg.drew ?_ | with_reducible refine Chg.alloc ?_ _ | with_reducible refine Chg.setCell ?_ _ _ (by first | (simp; done) | omega | (simp; omega)) | with_reducible refine Chg.setBlock ?_ _ _ (by first | (simp; done) | omega | (simp; omega)) | exact Chg.refl _ _))
  have h1 : 1 ≤ l.kind := by omega
  have h2 : l.kind ≤ 7 := by omega
  have hR := fun W => rows_yes l.kind W h1 h2
  have hF := fun W => form_calls c l W h1 h2
  have hE := fun (at_ : Int) (a b : Bool) (W : World) => end_calls c at_ a b W
  have hB := fun (W : World) => BCheck_calls l.tokens c.tokens W
  have hk : l.kind = 1 ∨ l.kind = 2 ∨ l.kind = 3 ∨ l.kind = 4 ∨ l.kind = 5 ∨ l.kind = 6 ∨ l.kind = 7 := by omega
  obtain ⟨q, hq⟩ : ∃ q, q = l.kind := ⟨_, rfl⟩
  simp only [← hq] at hk hF hR hr
  have herr : l.err c = if l.block < 0 ∨ c.blocks ≤ l.block then 3 else if l.ends c = false then 8 else if l.formed c = false then 10 else if q ≠ 1 then (if l.tokens ≠ Bundle.none then 6 else 0) else if l.tokens.check c.tokens ≠ 0 then l.tokens.check c.tokens else if l.tokens.count = 0 then 4 else 0 := by
    unfold Letter.err
    rw [if_neg (by omega), hq]
  have hends : l.ends c = (decide (l.src ≠ l.dst) && (if q = 1 then isAny c l.src && isAny c l.dst else if q = 2 then isNode c l.src && isAny c l.dst else if q = 4 ∨ q = 6 then decide (l.src = c.nodes) && isNode c l.dst else isNode c l.src && decide (l.dst = c.nodes))) := by
    rw [hq]; rfl
  simp only [hends, ne_eq, none_iff] at herr
  obtain ⟨fo, hfo⟩ : ∃ b, b = l.formed c := ⟨_, rfl⟩
  rw [← hfo] at herr
  rw [← hfo] at hF
  obtain ⟨n1, hn1⟩ : ∃ b, b = isNode c l.src := ⟨_, rfl⟩
  obtain ⟨n2, hn2⟩ : ∃ b, b = isNode c l.dst := ⟨_, rfl⟩
  obtain ⟨m1, hm1⟩ : ∃ b, b = decide (l.src = c.nodes) := ⟨_, rfl⟩
  obtain ⟨m2, hm2⟩ : ∃ b, b = decide (l.dst = c.nodes) := ⟨_, rfl⟩
  simp only [isAny, ← hn1, ← hn2, ← hm1, ← hm2] at herr
  have hE1 := fun (a b : Bool) (W : World) => hE l.src a b W
  have hE2 := fun (a b : Bool) (W : World) => hE l.dst a b W
  simp only [← hn1, ← hm1] at hE1
  simp only [← hn2, ← hm2] at hE2
  have HR := Lib.hid hR
  have HF := Lib.hid hF
  have HE1 := Lib.hid hE1
  have HE2 := Lib.hid hE2
  have HB := Lib.hid hB
  have HERR := Lib.hid herr
  clear hR hF hE hE1 hE2 hB herr hends hfo hn1 hn2 hm1 hm2 hr h1 h2
  obtain ⟨bc, hbc⟩ : ∃ x, x = l.tokens.check c.tokens := ⟨_, rfl⟩
  rw [← hbc] at HB HERR
  have HBC := Lib.hid (show bc = 0 → 0 ≤ l.tokens.count from fun h => (Bundle.check_zero.1 (hbc ▸ h)).1.pos)
  clear hbc
  simp only [Letter.val, Letter.cells, Config.val, Config.cells, Bundle.val, Bundle.cells] at HR HF HE1 HE2 HB ⊢
  rw [← hq] at HF ⊢
  clear hq
  rcases hk with rfl | rfl | rfl | rfl | rfl | rfl | rfl
  all_goals
    simp [rowVal, rowCells] at HF HR
    simp at HERR
    go_enter Tryz.func36, Tryz.ntmps36
    go_wp2_with fail
    refine (HR.out _).mono ?_
    rintro e w1 ⟨rfl, hb1⟩
    have o0 : ob w1 w.heap.size = some (.cells #[.int .i64 c.nodes, .int .i64 c.blocks, .int .i64 c.tokens, .int .i64 c.sets, .int .i64 c.ways, .int .i64 c.cap, .int .i64 c.wait, .int .i64 c.tries, .int .i64 c.policy] 23 (0, 0)) := (Chg.of_below (S := fun _ => False) hb1).ob (by simp [go_sem]) (fun h => h)
    have bw1 : Below w.heap.size w w1 := below_trans (Chg.below (by repeat (first | with_reducible exact Chg.refl _ _ | with_reducible exact chg0 | with_reducible refine Chg.drewN ?_ _ | with_reducible refine Chg.drew ?_ | with_reducible refine Chg.alloc ?_ _ | with_reducible refine Chg.setCell ?_ _ _ (by first | (simp; done) | omega | (simp; omega)) | with_reducible refine Chg.setBlock ?_ _ _ (by first | (simp; done) | omega | (simp; omega)) | exact Chg.refl _ _))) hb1
    have BW := Lib.hid bw1
    obtain ⟨hc1, hf1⟩ := bcell hb1
    have k0 := cell_ob o0 0
    have k1 := cell_ob o0 1
    have k2 := cell_ob o0 2
    have k3 := cell_ob o0 3
    have k4 := cell_ob o0 4
    have k5 := cell_ob o0 5
    have k6 := cell_ob o0 6
    have k7 := cell_ob o0 7
    have k8 := cell_ob o0 8
    simp at k0 k1 k2 k3 k4 k5 k6 k7 k8
    have hz0 := ob_lt o0
    clear o0
    have hz1 : w.heap.size + 1 < w1.heap.size := by have := hb1.size; simp at this; omega
    have hz0' : w.heap.size < w1.heap.size + 1 := by omega
    have hz1' : w.heap.size + 1 < w1.heap.size + 1 := by omega
    clear hb1 bw1
    go_wp2_with (first
      | (go_at_call 83; ((with_reducible refine (HE1.out _ _ _).mono ?_); rintro e w2 ⟨rfl, hb2⟩; obtain ⟨hc2, hf2⟩ := bcell hb2; have hz2 := hb2.size; (try simp at hz2); have y0 : w.heap.size < w2.heap.size := (by omega); have y1 : w.heap.size + 1 < w2.heap.size := (by omega); have y2 : w1.heap.size < w2.heap.size := (by omega); replace BW := Lib.hid (below_trans (below_trans BW.out (Chg.below (by repeat (first | with_reducible exact Chg.refl _ _ | with_reducible exact chg0 | with_reducible refine Chg.drewN ?_ _ | with_reducible refine Chg.drew ?_ | with_reducible refine Chg.alloc ?_ _ | with_reducible refine Chg.setCell ?_ _ _ (by first | (simp; done) | omega | (simp; omega)) | with_reducible refine Chg.setBlock ?_ _ _ (by first | (simp; done) | omega | (simp; omega)) | exact Chg.refl _ _)))) hb2); clear hb2))
      | (go_at_call 83; ((with_reducible refine (HE2.out _ _ _).mono ?_); rintro e w2 ⟨rfl, hb2⟩; obtain ⟨hc2, hf2⟩ := bcell hb2; have hz2 := hb2.size; (try simp at hz2); have y0 : w.heap.size < w2.heap.size := (by omega); have y1 : w.heap.size + 1 < w2.heap.size := (by omega); have y2 : w1.heap.size < w2.heap.size := (by omega); replace BW := Lib.hid (below_trans (below_trans BW.out (Chg.below (by repeat (first | with_reducible exact Chg.refl _ _ | with_reducible exact chg0 | with_reducible refine Chg.drewN ?_ _ | with_reducible refine Chg.drew ?_ | with_reducible refine Chg.alloc ?_ _ | with_reducible refine Chg.setCell ?_ _ _ (by first | (simp; done) | omega | (simp; omega)) | with_reducible refine Chg.setBlock ?_ _ _ (by first | (simp; done) | omega | (simp; omega)) | exact Chg.refl _ _)))) hb2); clear hb2))
      | (go_at_call 84; ((with_reducible refine (HF.out _).mono ?_); rintro e w2 ⟨rfl, hb2⟩; obtain ⟨hc2, hf2⟩ := bcell hb2; have hz2 := hb2.size; (try simp at hz2); have y0 : w.heap.size < w2.heap.size := (by omega); have y1 : w.heap.size + 1 < w2.heap.size := (by omega); have y2 : w1.heap.size < w2.heap.size := (by omega); replace BW := Lib.hid (below_trans (below_trans BW.out (Chg.below (by repeat (first | with_reducible exact Chg.refl _ _ | with_reducible exact chg0 | with_reducible refine Chg.drewN ?_ _ | with_reducible refine Chg.drew ?_ | with_reducible refine Chg.alloc ?_ _ | with_reducible refine Chg.setCell ?_ _ _ (by first | (simp; done) | omega | (simp; omega)) | with_reducible refine Chg.setBlock ?_ _ _ (by first | (simp; done) | omega | (simp; omega)) | exact Chg.refl _ _)))) hb2); clear hb2))
      | (go_at_call 85; ((with_reducible refine (HB.out _).mono ?_); rintro e w2 ⟨rfl, hb2⟩; obtain ⟨hc2, hf2⟩ := bcell hb2; have hz2 := hb2.size; (try simp at hz2); have y0 : w.heap.size < w2.heap.size := (by omega); have y1 : w.heap.size + 1 < w2.heap.size := (by omega); have y2 : w1.heap.size < w2.heap.size := (by omega); replace BW := Lib.hid (below_trans (below_trans BW.out (Chg.below (by repeat (first | with_reducible exact Chg.refl _ _ | with_reducible exact chg0 | with_reducible refine Chg.drewN ?_ _ | with_reducible refine Chg.drew ?_ | with_reducible refine Chg.alloc ?_ _ | with_reducible refine Chg.setCell ?_ _ _ (by first | (simp; done) | omega | (simp; omega)) | with_reducible refine Chg.setBlock ?_ _ _ (by first | (simp; done) | omega | (simp; omega)) | exact Chg.refl _ _)))) hb2); clear hb2)))
    all_goals
      clear hc1 hf1
      (try clear hc2 hf2)
      go_ret
      refine ⟨reti ?_, below_trans BW.out (Chg.below (by repeat (first | with_reducible exact Chg.refl _ _ | with_reducible exact chg0 | with_reducible refine Chg.drewN ?_ _ | with_reducible refine Chg.drew ?_ | with_reducible refine Chg.alloc ?_ _ | with_reducible refine Chg.setCell ?_ _ _ (by first | (simp; done) | omega | (simp; omega)) | with_reducible refine Chg.setBlock ?_ _ _ (by first | (simp; done) | omega | (simp; omega)) | exact Chg.refl _ _)))⟩
      rw [HERR.out]
      first | (simp_all; done) | (simp_all; omega) | ((repeat (any_goals split)) <;> first | rfl | omega | (simp_all; done) | (have hhc := HBC.out (by assumption); omega) | (simp_all; omega))
end Go.Proofs.YtchlioikkhnidaaGreat

/-
  What configurations, and the document's answers on letters, come to.
-/
namespace Go.Proofs.YtchlioikkhnidaaGreat
open Go.RowKit Go.Sort Go.ChangeShapes Go.WideShapes Go.ChangeAt
open Go.ChangeMaps (setBlock)
set_option linter.unusedVariables false
set_option linter.unusedSimpArgs false

theorem within_calls (n lo hi : Int) (w : World) : Calls Tryz.prog 121 #[.int .i64 n, .int .i64 lo, .int .i64 hi] w fun e w' => e = .returned (.bool (decide (lo ≤ n ∧ n ≤ hi))) ∧ w = w' := by
  go_enter Tryz.func121, Tryz.ntmps121
  go_wp2_with fail
  all_goals
    go_ret
    exact ⟨retb (by simp_all <;> omega), rfl⟩

set_option maxHeartbeats 8000000 in
set_option maxRecDepth 20000 in
theorem LConfig_calls (c : Config) (w : World) : Calls Tryz.prog 72 #[c.val] w (Pure w (.int .i64 c.err)) := by
  have herr : c.err = if c.sets < 1 ∨ 64 < c.sets ∨ c.ways < 1 ∨ 16 < c.ways ∨ c.cap < 1 ∨ 65536 < c.cap ∨ c.wait < 1 ∨ 64 < c.wait ∨ c.tries < 0 ∨ 8 < c.tries ∨ c.policy < 0 ∨ 2 < c.policy then 1 else if c.nodes < 1 ∨ 64 < c.nodes then 2 else if c.blocks < 1 ∨ 64 < c.blocks then 3 else if c.tokens < c.nodes ∨ 65536 < c.tokens then 4 else 0 := rfl
  have HERR := Lib.hid herr
  clear herr
  simp only [Config.val, Config.cells]
  go_enter Tryz.func72, Tryz.ntmps72
  go_wp2_with (first | (go_at_call 121; refine (within_calls _ _ _ _).mono ?_; rintro e w' ⟨rfl, rfl⟩))
  all_goals
    go_ret
    refine pure_of ?_ (by repeat (first | with_reducible exact Chg.refl _ _ | with_reducible exact chg0 | with_reducible refine Chg.drewN ?_ _ | with_reducible refine Chg.drew ?_ | with_reducible refine Chg.alloc ?_ _ | with_reducible refine Chg.setCell ?_ _ _ (by first | (simp; done) | omega | (simp; omega)) | with_reducible refine Chg.setBlock ?_ _ _ (by first | (simp; done) | omega | (simp; omega)) | exact Chg.refl _ _))
    rw [HERR.out]
    have key : ∀ {a b : Int}, a = b → Value.int .i64 a = .int .i64 b := fun h => by rw [h]
    refine key ?_
    simp at *
    (repeat (any_goals split)) <;> first | rfl | omega
set_option maxHeartbeats 8000000 in
set_option maxRecDepth 20000 in
theorem RefConfig_calls (c : Config) (w : World) : Calls Tryz.prog 24 #[c.val] w (Pure w (.int .i64 c.err)) := by
  have herr : c.err = if c.sets < 1 ∨ 64 < c.sets ∨ c.ways < 1 ∨ 16 < c.ways ∨ c.cap < 1 ∨ 65536 < c.cap ∨ c.wait < 1 ∨ 64 < c.wait ∨ c.tries < 0 ∨ 8 < c.tries ∨ c.policy < 0 ∨ 2 < c.policy then 1 else if c.nodes < 1 ∨ 64 < c.nodes then 2 else if c.blocks < 1 ∨ 64 < c.blocks then 3 else if c.tokens < c.nodes ∨ 65536 < c.tokens then 4 else 0 := rfl
  have HERR := Lib.hid herr
  clear herr
  simp only [Config.val, Config.cells]
  go_enter Tryz.func24, Tryz.ntmps24
  go_wp2_with fail
  all_goals
    go_ret
    refine pure_of ?_ (by repeat (first | with_reducible exact Chg.refl _ _ | with_reducible exact chg0 | with_reducible refine Chg.drewN ?_ _ | with_reducible refine Chg.drew ?_ | with_reducible refine Chg.alloc ?_ _ | with_reducible refine Chg.setCell ?_ _ _ (by first | (simp; done) | omega | (simp; omega)) | with_reducible refine Chg.setBlock ?_ _ _ (by first | (simp; done) | omega | (simp; omega)) | exact Chg.refl _ _))
    rw [HERR.out]
    have key : ∀ {a b : Int}, a = b → Value.int .i64 a = .int .i64 b := fun h => by rw [h]
    refine key ?_
    simp at *
    (repeat (any_goals split)) <;> first | rfl | omega
theorem RefNode_calls (c : Config) (n : Int) (w : World) : Calls Tryz.prog 25 #[c.val, .int .i64 n] w (Pure w (.bool (isNode c n))) := by
  simp only [Config.val, Config.cells]
  go_enter Tryz.func25, Tryz.ntmps25
  go_wp2_with fail
  all_goals
    go_ret
    refine pure_of ?_ (by repeat (first | with_reducible exact Chg.refl _ _ | with_reducible exact chg0 | with_reducible refine Chg.drewN ?_ _ | with_reducible refine Chg.drew ?_ | with_reducible refine Chg.alloc ?_ _ | with_reducible refine Chg.setCell ?_ _ _ (by first | (simp; done) | omega | (simp; omega)) | with_reducible refine Chg.setBlock ?_ _ _ (by first | (simp; done) | omega | (simp; omega)) | exact Chg.refl _ _))
    first | (simp_all [isNode]; done) | (simp_all [isNode]; omega)
end Go.Proofs.YtchlioikkhnidaaGreat

/-
  What the document's Check of a letter comes to.
-/
namespace Go.Proofs.YtchlioikkhnidaaGreat
open Go.RowKit Go.Sort Go.ChangeShapes Go.WideShapes Go.ChangeAt
open Go.ChangeMaps (setBlock)
set_option linter.unusedVariables false
set_option linter.unusedSimpArgs false

theorem ob_cells9 {w : World} {b : Nat} {t : TypeId} {a0 a1 a2 a3 a4 a5 a6 a7 a8 : Value} (h : ob w b = some (.cells #[a0, a1, a2, a3, a4, a5, a6, a7, a8] t (0, 0))) :
    w.cell? ⟨b, 0, none⟩ = some a0 ∧ w.cell? ⟨b, 1, none⟩ = some a1 ∧ w.cell? ⟨b, 2, none⟩ = some a2 ∧ w.cell? ⟨b, 3, none⟩ = some a3 ∧ w.cell? ⟨b, 4, none⟩ = some a4 ∧ w.cell? ⟨b, 5, none⟩ = some a5 ∧ w.cell? ⟨b, 6, none⟩ = some a6 ∧ w.cell? ⟨b, 7, none⟩ = some a7 ∧ w.cell? ⟨b, 8, none⟩ = some a8 ∧ (∀ i, w.frozen? ⟨b, i, none⟩ = false) ∧ b < w.heap.size :=
  ⟨cell_ob h 0, cell_ob h 1, cell_ob h 2, cell_ob h 3, cell_ob h 4, cell_ob h 5, cell_ob h 6, cell_ob h 7, cell_ob h 8, fun i => frozen_ob h i, ob_lt h⟩
def cOb (w : World) (b : Nat) (c : Config) : Prop := ob w b = some (.cells #[.int .i64 c.nodes, .int .i64 c.blocks, .int .i64 c.tokens, .int .i64 c.sets, .int .i64 c.ways, .int .i64 c.cap, .int .i64 c.wait, .int .i64 c.tries, .int .i64 c.policy] 23 (0, 0))
def lOb (w : World) (b : Nat) (l : Letter) : Prop := ob w b = some (.cells #[.int .i64 l.kind, .int .i64 l.src, .int .i64 l.dst, .int .i64 l.block, .int .i64 l.seq, .int .i64 l.who, .bool l.write, .int .i64 l.tokens.count, .bool l.tokens.owner, .bool l.tokens.has, .int .i64 l.tokens.data] 44 (0, 0))
theorem cOb.step {w w' : World} {b : Nat} {c : Config} (h : cOb w b c) (hb : Below w.heap.size w w') : cOb w' b c := (Chg.of_below (S := fun _ => False) hb).ob h (fun h => h)
theorem lOb.step {w w' : World} {b : Nat} {l : Letter} (h : lOb w b l) (hb : Below w.heap.size w w') : lOb w' b l := (Chg.of_below (S := fun _ => False) hb).ob h (fun h => h)
theorem lOb.lt {w : World} {b : Nat} {l : Letter} (h : lOb w b l) : b < w.heap.size := ob_lt h
theorem cOb.two (w : World) (c : Config) (o : Obj) : cOb ((w.alloc (.cells #[.int .i64 c.nodes, .int .i64 c.blocks, .int .i64 c.tokens, .int .i64 c.sets, .int .i64 c.ways, .int .i64 c.cap, .int .i64 c.wait, .int .i64 c.tries, .int .i64 c.policy] 23)).alloc o) w.heap.size c := by
  unfold cOb
  rw [ob_alloc_past _ _ _ (by simp), ob_alloc_at]
theorem lOb.two (w : World) (l : Letter) (o : Obj) : lOb ((w.alloc o).alloc (.cells #[.int .i64 l.kind, .int .i64 l.src, .int .i64 l.dst, .int .i64 l.block, .int .i64 l.seq, .int .i64 l.who, .bool l.write, .int .i64 l.tokens.count, .bool l.tokens.owner, .bool l.tokens.has, .int .i64 l.tokens.data] 44)) (w.heap.size + 1) l := by
  unfold lOb
  exact ob_alloc_new _ _ _ (by simp)

set_option maxHeartbeats 4000000 in
theorem RefAny_calls (c : Config) (n : Int) (w : World) : Calls Tryz.prog 99 #[c.val, .int .i64 n] w (Pure w (.bool (isAny c n))) := by
  have hN := fun (W : World) => RefNode_calls c n W
  obtain ⟨b, hb⟩ : ∃ b, b = isNode c n := ⟨_, rfl⟩
  have he : isAny c n = (decide (n = c.nodes) || b) := by rw [hb]; rfl
  simp only [← hb] at hN
  rw [he]
  clear he hb
  simp only [Config.val, Config.cells] at hN ⊢
  have HN := Lib.hid hN
  clear hN
  go_enter Tryz.func99, Tryz.ntmps99
  go_wp2_with (go_at_call 25; refine (HN.out _).mono ?_; rintro e w1 ⟨rfl, hb1⟩; have chg0 : Chg (fun _ => False) w w1 := Chg.of_below (below_trans (Chg.below (by repeat (first | with_reducible exact Chg.refl _ _ | with_reducible exact chg0 | with_reducible refine Chg.drewN ?_ _ | with_reducible refine Chg.drew ?_ | with_reducible refine Chg.alloc ?_ _ | with_reducible refine Chg.setCell ?_ _ _ (by first | (simp; done) | omega | (simp; omega)) | with_reducible refine Chg.setBlock ?_ _ _ (by first | (simp; done) | omega | (simp; omega)) | exact Chg.refl _ _))) hb1))
  all_goals
    go_ret
    refine pure_of ?_ (by repeat (first | with_reducible exact Chg.refl _ _ | with_reducible exact chg0 | with_reducible refine Chg.drewN ?_ _ | with_reducible refine Chg.drew ?_ | with_reducible refine Chg.alloc ?_ _ | with_reducible refine Chg.setCell ?_ _ _ (by first | (simp; done) | omega | (simp; omega)) | with_reducible refine Chg.setBlock ?_ _ _ (by first | (simp; done) | omega | (simp; omega)) | exact Chg.refl _ _))
    simp_all

set_option maxHeartbeats 8000000 in
set_option maxRecDepth 20000 in
theorem RefEnds_calls (c : Config) (l : Letter) (w : World) : Calls Tryz.prog 43 #[c.val, l.val] w (Pure w (.bool (l.ends c))) := by
  have hN := fun (n : Int) (W : World) => RefNode_calls c n W
  have hA := fun (n : Int) (W : World) => RefAny_calls c n W
  have hE : l.ends c = (decide (l.src ≠ l.dst) && (if l.kind = 1 then isAny c l.src && isAny c l.dst else if l.kind = 2 then isNode c l.src && isAny c l.dst else if l.kind = 4 ∨ l.kind = 6 then decide (l.src = c.nodes) && isNode c l.dst else isNode c l.src && decide (l.dst = c.nodes))) := rfl
  have HE := Lib.hid hE
  have HN := Lib.hid hN
  have HA := Lib.hid hA
  clear hN hA hE
  simp only [Config.val, Config.cells, Letter.val, Letter.cells] at HN HA ⊢
  cases hq : (l.src == c.nodes)
  all_goals
    go_enter Tryz.func43, Tryz.ntmps43
    have C0 := Lib.hid (cOb.two w c (.cells #[.int .i64 l.kind, .int .i64 l.src, .int .i64 l.dst, .int .i64 l.block, .int .i64 l.seq, .int .i64 l.who, .bool l.write, .int .i64 l.tokens.count, .bool l.tokens.owner, .bool l.tokens.has, .int .i64 l.tokens.data] 44))
    have L0 := Lib.hid (lOb.two w l (.cells #[.int .i64 c.nodes, .int .i64 c.blocks, .int .i64 c.tokens, .int .i64 c.sets, .int .i64 c.ways, .int .i64 c.cap, .int .i64 c.wait, .int .i64 c.tries, .int .i64 c.policy] 23))
    go_wp2_with (first
      | (go_at_call 25; refine (HN.out _ _).mono ?_; rintro e w1 ⟨rfl, hb1⟩; have chg0 : Chg (fun _ => False) w w1 := Chg.of_below (below_trans (Chg.below (by repeat (first | with_reducible exact Chg.refl _ _ | with_reducible exact chg0 | with_reducible refine Chg.drewN ?_ _ | with_reducible refine Chg.drew ?_ | with_reducible refine Chg.alloc ?_ _ | with_reducible refine Chg.setCell ?_ _ _ (by first | (simp; done) | omega | (simp; omega)) | with_reducible refine Chg.setBlock ?_ _ _ (by first | (simp; done) | omega | (simp; omega)) | exact Chg.refl _ _))) hb1); replace C0 := Lib.hid (C0.out.step hb1); replace L0 := Lib.hid (L0.out.step hb1); obtain ⟨k0, k1, k2, k3, k4, k5, k6, k7, k8, kf, kl⟩ := ob_cells9 C0.out; obtain ⟨m0, m1, m2, m3, m4, m5, m6, m7, m8, m9, m10, mf⟩ := ob_cells11 L0.out; have ml := L0.out.lt; clear hb1)
      | (go_at_call 99; refine (HA.out _ _).mono ?_; rintro e w1 ⟨rfl, hb1⟩; have chg0 : Chg (fun _ => False) w w1 := Chg.of_below (below_trans (Chg.below (by repeat (first | with_reducible exact Chg.refl _ _ | with_reducible exact chg0 | with_reducible refine Chg.drewN ?_ _ | with_reducible refine Chg.drew ?_ | with_reducible refine Chg.alloc ?_ _ | with_reducible refine Chg.setCell ?_ _ _ (by first | (simp; done) | omega | (simp; omega)) | with_reducible refine Chg.setBlock ?_ _ _ (by first | (simp; done) | omega | (simp; omega)) | exact Chg.refl _ _))) hb1); replace C0 := Lib.hid (C0.out.step hb1); replace L0 := Lib.hid (L0.out.step hb1); obtain ⟨k0, k1, k2, k3, k4, k5, k6, k7, k8, kf, kl⟩ := ob_cells9 C0.out; obtain ⟨m0, m1, m2, m3, m4, m5, m6, m7, m8, m9, m10, mf⟩ := ob_cells11 L0.out; have ml := L0.out.lt; clear hb1))
    all_goals
      go_ret
      refine pure_of ?_ (by repeat (first | with_reducible exact Chg.refl _ _ | with_reducible exact chg0 | with_reducible refine Chg.drewN ?_ _ | with_reducible refine Chg.drew ?_ | with_reducible refine Chg.alloc ?_ _ | with_reducible refine Chg.setCell ?_ _ _ (by first | (simp; done) | omega | (simp; omega)) | with_reducible refine Chg.setBlock ?_ _ _ (by first | (simp; done) | omega | (simp; omega)) | exact Chg.refl _ _))
      rw [HE.out]
      first | (simp_all; done) | (simp_all; exact beq_int _ _)

end Go.Proofs.YtchlioikkhnidaaGreat

/-
  What the document's Check of a letter comes to.
-/
namespace Go.Proofs.YtchlioikkhnidaaGreat
open Go.RowKit Go.Sort Go.ChangeShapes Go.WideShapes Go.ChangeAt
open Go.ChangeMaps (setBlock)
set_option linter.unusedVariables false
set_option linter.unusedSimpArgs false

theorem none_iff' (b : Bundle) : b = Bundle.none ↔ b.count = 0 ∧ b.owner = false ∧ b.has = false ∧ b.data = 0 := by
  obtain ⟨a, o, h, d⟩ := b
  simp [Bundle.none]
set_option maxHeartbeats 8000000 in
set_option maxRecDepth 20000 in
theorem RefLCheck_calls (c : Config) (l : Letter) (w : World) : Calls Tryz.prog 16 #[c.val, l.val] w (Pure w (.int .i64 (l.err c))) := by
  by_cases hr : l.kind < 1 ∨ 7 < l.kind
  · have HQ := Lib.hid hr
    simp only [Letter.val, Letter.cells, Config.val, Config.cells]
    rcases hr with h | h
    · have h' : decide (l.kind < 1) = true := by simpa using h
      go_enter Tryz.func16, Tryz.ntmps16
      go_wp2_with fail
      go_ret
      exact pure_of (by unfold Letter.err; rw [if_pos HQ.out]; rfl) (by repeat (first | with_reducible exact Chg.refl _ _ | with_reducible exact chg0 | with_reducible refine Chg.drewN ?_ _ | with_reducible refine Chg.drew ?_ | with_reducible refine Chg.alloc ?_ _ | with_reducible refine Chg.setCell ?_ _ _ (by first | (simp; done) | omega | (simp; omega)) | with_reducible refine Chg.setBlock ?_ _ _ (by first | (simp; done) | omega | (simp; omega)) | exact Chg.refl _ _))
    · have h' : decide (7 < l.kind) = true := by simpa using h
      have h'' : decide (l.kind < 1) = false := by simp; omega
      go_enter Tryz.func16, Tryz.ntmps16
      go_wp2_with fail
      go_ret
      exact pure_of (by unfold Letter.err; rw [if_pos HQ.out]; rfl) (by repeat (first | with_reducible exact Chg.refl _ _ | with_reducible exact chg0 | with_reducible refine Chg.drewN ?_ _ | with_reducible refine Chg.drew ?_ | with_reducible refine Chg.alloc ?_ _ | with_reducible refine Chg.setCell ?_ _ _ (by first | (simp; done) | omega | (simp; omega)) | with_reducible refine Chg.setBlock ?_ _ _ (by first | (simp; done) | omega | (simp; omega)) | exact Chg.refl _ _))
  have hE := fun (W : World) => RefEnds_calls c l W
  have hN := fun (W : World) => RefNode_calls c l.who W
  have hB := fun (W : World) => RefCheck_calls l.tokens c.tokens W
  have hk : l.kind = 1 ∨ l.kind = 2 ∨ l.kind = 3 ∨ l.kind = 4 ∨ l.kind = 5 ∨ l.kind = 6 ∨ l.kind = 7 := by omega
  obtain ⟨q, hq⟩ : ∃ q, q = l.kind := ⟨_, rfl⟩
  rw [← hq] at hk hr
  have herr : l.err c = if l.block < 0 ∨ c.blocks ≤ l.block then 3 else if l.ends c = false then 8 else if ((if 4 ≤ q then decide (1 ≤ l.seq) else decide (l.seq = 0)) && (if q = 4 then isNode c l.who else decide (l.who = 0)) && (!l.write || decide (q = 2))) = false then 10 else if q ≠ 1 then (if l.tokens ≠ Bundle.none then 6 else 0) else if l.tokens.check c.tokens ≠ 0 then l.tokens.check c.tokens else if l.tokens.count = 0 then 4 else 0 := by
    unfold Letter.err
    rw [if_neg (by omega), hq]
    rfl
  simp only [ne_eq, none_iff'] at herr
  obtain ⟨en, hen⟩ : ∃ b, b = l.ends c := ⟨_, rfl⟩
  obtain ⟨wn, hwn⟩ : ∃ b, b = isNode c l.who := ⟨_, rfl⟩
  obtain ⟨bc, hbc⟩ : ∃ x, x = l.tokens.check c.tokens := ⟨_, rfl⟩
  simp only [← hen] at hE
  simp only [← hwn] at hN
  simp only [← hbc] at hB
  simp only [← hen, ← hwn, ← hbc] at herr
  have HE := Lib.hid hE
  have HN := Lib.hid hN
  have HB := Lib.hid hB
  have HERR := Lib.hid herr
  have HBC := Lib.hid (show bc = 0 → 0 ≤ l.tokens.count from fun h => (Bundle.check_zero.1 (hbc ▸ h)).1.pos)
  clear hE hN hB herr hen hwn hbc hr
  simp only [Letter.val, Letter.cells, Config.val, Config.cells, Bundle.val, Bundle.cells] at HE HN HB ⊢
  rw [← hq] at HE ⊢
  have HK := Lib.hid hq
  clear hq
  rcases hk with rfl | rfl | rfl | rfl | rfl | rfl | rfl
  all_goals
    simp at HERR
    go_enter Tryz.func16, Tryz.ntmps16
    have C0 := Lib.hid (cOb.two w c (.cells #[.int .i64 l.kind, .int .i64 l.src, .int .i64 l.dst, .int .i64 l.block, .int .i64 l.seq, .int .i64 l.who, .bool l.write, .int .i64 l.tokens.count, .bool l.tokens.owner, .bool l.tokens.has, .int .i64 l.tokens.data] 44))
    have L0 := Lib.hid (lOb.two w l (.cells #[.int .i64 c.nodes, .int .i64 c.blocks, .int .i64 c.tokens, .int .i64 c.sets, .int .i64 c.ways, .int .i64 c.cap, .int .i64 c.wait, .int .i64 c.tries, .int .i64 c.policy] 23))
    rw [← HK.out] at C0 L0
    go_wp2_with (first
      | (go_at_call 43; refine (HE.out _).mono ?_; rintro e w1 ⟨rfl, hb1⟩; have chg0 : Chg (fun _ => False) w w1 := Chg.of_below (below_trans (Chg.below (by repeat (first | with_reducible exact Chg.refl _ _ | with_reducible exact chg0 | with_reducible refine Chg.drewN ?_ _ | with_reducible refine Chg.drew ?_ | with_reducible refine Chg.alloc ?_ _ | with_reducible refine Chg.setCell ?_ _ _ (by first | (simp; done) | omega | (simp; omega)) | with_reducible refine Chg.setBlock ?_ _ _ (by first | (simp; done) | omega | (simp; omega)) | exact Chg.refl _ _))) hb1); replace C0 := Lib.hid (C0.out.step hb1); replace L0 := Lib.hid (L0.out.step hb1); obtain ⟨k0, k1, k2, k3, k4, k5, k6, k7, k8, kf, kl⟩ := ob_cells9 C0.out; obtain ⟨m0, m1, m2, m3, m4, m5, m6, m7, m8, m9, m10, mf⟩ := ob_cells11 L0.out; rw [← HK.out] at m0; have ml := L0.out.lt; clear hb1)
      | (go_at_call 25; refine (HN.out _).mono ?_; rintro e w1 ⟨rfl, hb1⟩; have chg0 : Chg (fun _ => False) w w1 := Chg.of_below (below_trans (Chg.below (by repeat (first | with_reducible exact Chg.refl _ _ | with_reducible exact chg0 | with_reducible refine Chg.drewN ?_ _ | with_reducible refine Chg.drew ?_ | with_reducible refine Chg.alloc ?_ _ | with_reducible refine Chg.setCell ?_ _ _ (by first | (simp; done) | omega | (simp; omega)) | with_reducible refine Chg.setBlock ?_ _ _ (by first | (simp; done) | omega | (simp; omega)) | exact Chg.refl _ _))) hb1); replace C0 := Lib.hid (C0.out.step hb1); replace L0 := Lib.hid (L0.out.step hb1); obtain ⟨k0, k1, k2, k3, k4, k5, k6, k7, k8, kf, kl⟩ := ob_cells9 C0.out; obtain ⟨m0, m1, m2, m3, m4, m5, m6, m7, m8, m9, m10, mf⟩ := ob_cells11 L0.out; rw [← HK.out] at m0; have ml := L0.out.lt; clear hb1)
      | (go_at_call 44; refine (HB.out _).mono ?_; rintro e w1 ⟨rfl, hb1⟩; have chg0 : Chg (fun _ => False) w w1 := Chg.of_below (below_trans (Chg.below (by repeat (first | with_reducible exact Chg.refl _ _ | with_reducible exact chg0 | with_reducible refine Chg.drewN ?_ _ | with_reducible refine Chg.drew ?_ | with_reducible refine Chg.alloc ?_ _ | with_reducible refine Chg.setCell ?_ _ _ (by first | (simp; done) | omega | (simp; omega)) | with_reducible refine Chg.setBlock ?_ _ _ (by first | (simp; done) | omega | (simp; omega)) | exact Chg.refl _ _))) hb1); replace C0 := Lib.hid (C0.out.step hb1); replace L0 := Lib.hid (L0.out.step hb1); obtain ⟨k0, k1, k2, k3, k4, k5, k6, k7, k8, kf, kl⟩ := ob_cells9 C0.out; obtain ⟨m0, m1, m2, m3, m4, m5, m6, m7, m8, m9, m10, mf⟩ := ob_cells11 L0.out; rw [← HK.out] at m0; have ml := L0.out.lt; clear hb1))
    all_goals
      go_ret
      refine pure_of ?_ (by repeat (first | with_reducible exact Chg.refl _ _ | with_reducible exact chg0 | with_reducible refine Chg.drewN ?_ _ | with_reducible refine Chg.drew ?_ | with_reducible refine Chg.alloc ?_ _ | with_reducible refine Chg.setCell ?_ _ _ (by first | (simp; done) | omega | (simp; omega)) | with_reducible refine Chg.setBlock ?_ _ _ (by first | (simp; done) | omega | (simp; omega)) | exact Chg.refl _ _))
      have key : ∀ {a b : Int}, a = b → Value.int .i64 a = .int .i64 b := fun h => by rw [h]
      refine key ?_
      rw [HERR.out]
      (try clear k0 k1 k2 k3 k4 k5 k6 k7 k8 m0 m1 m2 m3 m4 m5 m6 m7 m8 m9 m10)
      first | (simp_all; done) | (simp_all; omega) | ((repeat (any_goals split)) <;> first | rfl | omega | (simp_all; done) | (have hhc := HBC.out (by assumption); omega) | (simp_all; omega))
end Go.Proofs.YtchlioikkhnidaaGreat
