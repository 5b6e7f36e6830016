/-
  The document's registers: what its calls come to.
-/
import Derived.Test.YtlgancadedlbiaaReg2
namespace Go.Proofs.Ytlgancadedlbiaa
open Go.RowKit
open Go.ChangeMaps (setBlock)

def refVal (l : List Done) (b : Int) : Int := l.foldl (fun v d => if d.op.block = b ∧ d.op.write = true then d.op.value else v) 0
theorem refVal_snoc (l : List Done) (d : Done) (b : Int) : refVal (l ++ [d]) b = if d.op.block = b ∧ d.op.write = true then d.op.value else refVal l b := by simp [refVal]
theorem take_snoc {α : Type} (l : List α) (k : Nat) (h : k < l.length) : l.take (k + 1) = l.take k ++ [l[k]] := by simp

/-- An element of a slice of operations: its cells. -/
theorem doneAt {w wr : World} {b off k : Nat} {l : List Done} (hr : RowsAt w b off 7 (l.map Done.cells)) (hb : Below w.heap.size w wr) (hk : k < l.length) :
    wr.rangeAt b (off + k * 7) (l[k]).cells := rangeAt_below (hr k _ (by simp [hk])) hb

set_option maxHeartbeats 1000000 in
theorem refValue_calls (l : List Done) (v : Value) (b : Int) (w : World) (hl : SliceIs w 7 v (l.map Done.cells)) :
    Calls Try.prog 14 #[v, .int .i64 b] w fun e w' => e = .returned (.int .i64 (refVal l b)) ∧ w = w' := by
  obtain ⟨A, cap, rfl, h1, h2, h3⟩ := hl
  simp only [List.length_map] at h1 h2 h3 ⊢
  have H3 := Lib.hid h3
  clear h3
  go_enter Try.func14, Try.ntmps14
  go_wp2
  go_loop [5, 6] (fun x i => ∃ k : Nat, k ≤ l.length ∧ i = .int .i64 k ∧ x = .int .i64 (refVal (l.take k) b)) (fun _ i => l.length - (intOf i).toNat)
  case atStart => exact ⟨0, Nat.zero_le _, rfl, rfl⟩
  case round =>
    obtain ⟨k, hk, rfl, rfl⟩ := hrel
    by_cases hlt : k < l.length
    · obtain ⟨g, off, rfl, hrows⟩ := H3.out (by omega)
      have hrow := doneAt hrows (Below.refl _ _) hlt
      have hsn := refVal_snoc (l.take k) l[k] b
      rw [← take_snoc l k hlt] at hsn
      have hwk : ∃ d, d = l[k] := ⟨_, rfl⟩
      obtain ⟨d, hd⟩ := hwk
      rw [← hd] at hrow hsn
      obtain ⟨c0, c1, c2, c3, c4, c5, c6⟩ := Done.range hrow
      have Hsn := Lib.hid hsn
      clear hd hrow hsn
      generalize hv : refVal (l.take k) b = rv at *
      clear hv
      go_wp2
      all_goals
        refine ⟨⟨k + 1, by omega, by go_num, ?_⟩, by simp [intOf]; omega⟩
        rw [Hsn.out]
        first
          | rw [if_pos ⟨‹d.op.block = b›, ‹d.op.write = true›⟩]
          | rw [if_neg (fun h => by simp_all)]
    · go_wp2
      go_ret
      exact ⟨by rw [List.take_of_length_le (by omega)]; rfl, rfl⟩

/-- How many of some operations are a node's. -/
def cnt (l : List Done) (n : Int) : Nat := (l.filter fun d => decide (d.node = n)).length
def lastStep (l : List Done) : Int := l.foldl (fun _ d => d.step) 1
theorem cnt_snoc (l : List Done) (d : Done) (n : Int) : cnt (l ++ [d]) n = cnt l n + if d.node = n then 1 else 0 := by
  unfold cnt
  rw [List.filter_append]
  by_cases h : d.node = n <;> simp [h]
theorem cnt_le (l : List Done) (n : Int) : cnt l n ≤ l.length := List.length_filter_le _ _
theorem lastStep_snoc (l : List Done) (d : Done) : lastStep (l ++ [d]) = d.step := by simp [lastStep]
def fits (l : List Done) (d : Done) : Bool := decide (d.number = (cnt l d.node : Int) + 1) && decide (lastStep l ≤ d.step) && decide (d.value = if d.op.write then d.op.value else refVal l d.op.block)

set_option maxHeartbeats 1000000 in
theorem refFits_calls (l : List Done) (d : Done) (v : Value) (w : World) (hl : SliceIs w 7 v (l.map Done.cells)) (hn : l.length ≤ 1000) :
    Calls Try.prog 12 #[v, d.val] w fun e w' => e = .returned (.bool (fits l d)) ∧ Below w.heap.size w w' := by
  have HL := Lib.hid hl
  obtain ⟨A, cap, rfl, h1, h2, h3⟩ := hl
  simp only [List.length_map] at h1 h2 h3 HL ⊢
  have H3 := Lib.hid h3
  clear h3
  have hfits : fits l d = (decide (d.number = (cnt l d.node : Int) + 1) && decide (lastStep l ≤ d.step) && decide (d.value = if d.op.write then d.op.value else refVal l d.op.block)) := rfl
  have Hfits := Lib.hid hfits
  clear hfits
  generalize hfl : fits l d = fl
  rw [hfl] at Hfits
  clear hfl
  simp only [Done.val, Done.cells]
  go_enter Try.func12, Try.ntmps12
  go_wp2
  go_loopw [5, 6, 7] (fun c s i wr => ∃ k : Nat, k ≤ l.length ∧ i = .int .i64 k ∧ c = .int .i64 (cnt (l.take k) d.node) ∧ s = .int .i64 (lastStep (l.take k)) ∧ ∃ n, wr = (w.alloc (.cells d.cells.toArray 33)).drewN n) (fun _ _ i _ => l.length - (intOf i).toNat)
  case atStart => exact ⟨0, Nat.zero_le _, rfl, rfl, rfl, 0, rfl⟩
  case round =>
    obtain ⟨k, hk, rfl, rfl, rfl, nd, rfl⟩ := hrel
    simp only [Done.cells]
    by_cases hlt : k < l.length
    · obtain ⟨g, off, rfl, hrows⟩ := H3.out (by omega)
      have hrow := doneAt hrows (Below.refl _ _) hlt
      have hs1 := cnt_snoc (l.take k) l[k] d.node
      have hs2 := lastStep_snoc (l.take k) l[k]
      rw [← take_snoc l k hlt] at hs1 hs2
      have hwk : ∃ x, x = l[k] := ⟨_, rfl⟩
      obtain ⟨x, hx⟩ := hwk
      rw [← hx] at hrow hs1 hs2
      obtain ⟨c0, c1, c2, c3, c4, c5, c6⟩ := Done.range hrow
      have Hs1 := Lib.hid hs1
      have Hs2 := Lib.hid hs2
      have hc := cnt_le (l.take k) d.node
      rw [List.length_take_of_le hk] at hc
      have lg := World.block_lt_of_cell? w _ c0
      simp only at lg
      clear hx hrow hs1 hs2
      generalize hv : cnt (l.take k) d.node = cn at *
      generalize hv : lastStep (l.take k) = ls at *
      clear hv
      go_wp2
      go_quiet (fail)
      go_wp2
      all_goals
        refine ⟨⟨k + 1, by omega, by go_num, ?_, by rw [Hs2.out], nd + nq, rfl⟩, by simp [intOf]; omega⟩
        rw [Hs1.out]
        split <;> first | go_num | (exfalso; simp_all; done)
    · obtain rfl : k = l.length := by omega
      rw [List.take_length]
      have hc := cnt_le l d.node
      go_wp2
      all_goals
        first
          | go_ret
          | (go_quiet ((go_at_call 14; exact (refValue_calls l _ _ _ (HL.out.below (Chg.below (by repeat (first | exact Chg.refl _ _ | refine Chg.drewN ?_ _ | refine Chg.drew ?_ | refine Chg.alloc ?_ _ | refine Chg.setCell ?_ _ _ (by simp) | refine Chg.setBlock ?_ _ _ (by simp)))))).mono (fun _ _ h => ⟨h.1, _, h.2.symm⟩)))
             go_wp2
             go_ret)
        refine ⟨?_, Chg.below (by repeat (first | exact Chg.refl _ _ | refine Chg.drewN ?_ _ | refine Chg.drew ?_ | refine Chg.alloc ?_ _ | refine Chg.setCell ?_ _ _ (by simp) | refine Chg.setBlock ?_ _ _ (by simp)))⟩
        rw [Hfits.out]
        refine retb ?_
        first
          | (have hls : decide (lastStep l ≤ d.step) = false := by simp; omega
             rw [hls]; simp; done)
          | (simp [*, beq_int]; done)
          | (have hls : decide (lastStep l ≤ d.step) = true := by simp; omega
             simp [*, beq_int]; done)

/-- The place of the first that can't be so, by definition. -/
def refRun (l : List Done) : Nat → Option Nat
  | i => if h : i < l.length then (if fits (l.take i) l[i] then refRun l (i + 1) else some i) else none
  termination_by i => l.length - i

set_option maxHeartbeats 1000000 in
theorem refCheck_calls (l : List Done) (v : Value) (w : World) (hl : SliceIs w 7 v (l.map Done.cells)) (hn : l.length ≤ 1000) :
    Calls Try.prog 9 #[v] w fun e w' => e = .returned (.tuple #[.int .i64 (outI (refRun l 0)), .bool (outB (refRun l 0))]) ∧ Below w.heap.size w w' := by
  obtain ⟨A, cap, rfl, h1, h2, h3⟩ := hl
  simp only [List.length_map] at h1 h2 h3 ⊢
  have H3 := Lib.hid h3
  clear h3
  go_enter Try.func9, Try.ntmps9
  go_wp2
  go_loopw [4] (fun i wr => ∃ k : Nat, k ≤ l.length ∧ i = .int .i64 k ∧ refRun l 0 = refRun l k ∧ Below w.heap.size w wr) (fun i _ => l.length - (intOf i).toNat)
  case atStart => exact ⟨0, Nat.zero_le _, rfl, rfl, Below.refl _ _⟩
  case round =>
    obtain ⟨k, hk, rfl, hrun, hbr⟩ := hrel
    have Hrun := Lib.hid hrun
    have Hbr := Lib.hid hbr
    clear hrun hbr
    by_cases hlt : k < l.length
    · obtain ⟨g, off, rfl, hrows⟩ := H3.out (by omega)
      have hrow := doneAt hrows Hbr.out hlt
      have Hrows := Lib.hid hrows
      clear hrows
      have hstep : refRun l k = if fits (l.take k) l[k] then refRun l (k + 1) else some k := by rw [refRun, dif_pos hlt]
      have hwk : ∃ d, d = l[k] := ⟨_, rfl⟩
      obtain ⟨d, hd⟩ := hwk
      rw [← hd] at hrow hstep
      obtain ⟨c0, c1, c2, c3, c4, c5, c6⟩ := Done.range hrow
      have Hstep := Lib.hid hstep
      have Hrow := Lib.hid hrow
      clear hstep hd hrow
      have hk0 : (0 : Int) ≤ (k : Int) := Int.natCast_nonneg _
      have hk1 : (k : Int) < (l.length : Int) := by omega
      have hkc : (k : Int) ≤ (cap : Int) := by omega
      have hc0 : ¬ cap = 0 := by omega
      go_wp2
      go_region_held3 (fun W => W.cell? ⟨g, off + k * 7, none⟩ = some (.int .i64 d.node) ∧ W.cell? ⟨g, off + k * 7 + 1, none⟩ = some (.int .i64 d.number) ∧ W.cell? ⟨g, off + k * 7 + 2, none⟩ = some (.int .i64 d.op.block) ∧
          W.cell? ⟨g, off + k * 7 + 3, none⟩ = some (.bool d.op.write) ∧ W.cell? ⟨g, off + k * 7 + 4, none⟩ = some (.int .i64 d.op.value) ∧ W.cell? ⟨g, off + k * 7 + 5, none⟩ = some (.int .i64 d.value) ∧ W.cell? ⟨g, off + k * 7 + 6, none⟩ = some (.int .i64 d.step))
        (first | go_keep | exact Done.range (rangeAt_below (w := wr.drew) Hrow.out hb2))
        (first | (go_at_call 12; refine (refFits_calls (l.take k) d _ _ ?_ ?_).mono ?_; (rw [List.map_take]; exact (Hrows.out.below (below_trans Hbr.out (Chg.below (by repeat (first | exact Chg.refl _ _ | refine Chg.drewN ?_ _ | refine Chg.drew ?_ | refine Chg.alloc ?_ _ | refine Chg.setCell ?_ _ _ (by simp) | refine Chg.setBlock ?_ _ _ (by simp)))))).take k (by simp; omega) (by omega) (by omega)); (rw [List.length_take]; omega); rintro e w2 ⟨rfl, hb2⟩))
      have hb3 : Below w.heap.size w w2 := below_trans (below_trans Hbr.out (Chg.below (by repeat (first | exact Chg.refl _ _ | refine Chg.drewN ?_ _ | refine Chg.drew ?_ | refine Chg.alloc ?_ _ | refine Chg.setCell ?_ _ _ (by simp) | refine Chg.setBlock ?_ _ _ (by simp))))) hb2
      go_wp2
      · rename_i hdo
        have hdo' : ¬ fits (l.take k) d = true := by simpa using hdo
        go_ret2
        exact ⟨by rw [Hrun.out, Hstep.out, if_neg hdo']; rfl, hb3⟩
      · rename_i hdo
        have hdo' : fits (l.take k) d = true := by simpa using hdo
        exact ⟨⟨k + 1, by omega, by go_num, by rw [Hrun.out, Hstep.out, if_pos hdo'], hb3⟩, by simp [intOf]; omega⟩
    · go_wp2
      go_ret2
      exact ⟨by rw [Hrun.out, refRun, dif_neg hlt]; rfl, Hbr.out⟩
end Go.Proofs.Ytlgancadedlbiaa
