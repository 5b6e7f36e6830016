/-
  The statements on registers.
-/
import Derived.Test.YtlgancadedlbiaaReg3
namespace Go.Proofs.Ytlgancadedlbiaa
open Go.RowKit Go.ChangeShapes Go.WideShapes Go.ChangeAt
open Go.ChangeMaps (setBlock)
set_option linter.unusedVariables false

theorem dones_ok (l : List Done) : RowsOk 7 (l.map Done.cells) := ⟨fun r hr => by obtain ⟨d, _, rfl⟩ := List.mem_map.1 hr; rfl, fun r hr u hu => by
  obtain ⟨d, _, rfl⟩ := List.mem_map.1 hr
  simp only [Done.cells, List.mem_cons, List.not_mem_nil, or_false] at hu
  rcases hu with rfl | rfl | rfl | rfl | rfl | rfl | rfl <;> rfl⟩
theorem tyDones : SlTy Try.prog 22 33 7 56 (.agg #[.int .i64 0, .int .i64 0, .int .i64 0, .bool false, .int .i64 0, .int .i64 0, .int .i64 0]) := ⟨Try.underlying22, by kernel_rfl, rfl, by decide, by decide⟩

def dA : Done := ⟨0, 1, ⟨0, true, 5⟩, 5, 1⟩
def dB : Done := ⟨1, 1, ⟨0, false, 0⟩, 5, 1⟩
def dC : Done := ⟨1, 1, ⟨0, false, 0⟩, 4, 1⟩

set_option maxHeartbeats 1000000 in
theorem Value_calls (p mb db : Nat) (s : Regs) (b : Int) (w : World) (h : IsRegsAt w p mb db s) :
    Calls Try.prog 13 #[.pointer (some ⟨p, 0, none⟩), .int .i64 b] w fun e w' => e = .returned (.int .i64 (s.values b)) ∧ w = w' := by
  obtain ⟨hp, ⟨om, gm, hm, hom, him⟩, _, _⟩ := h
  have c0 : w.cell? ⟨p, 0, none⟩ = some (.map (some mb)) := cell_ob hp _
  have hlm : ∀ (k : Int) (W : World), ob W mb = some om → (Instr.lookup 40 (.map (some mb)) (.int .i64 k) false).run Try.prog W = .ok (.int .i64 (s.values k)) W := fun k W hW => by
    rw [hom.lookup tyII64 k mb W hW, him k]
  clear hom him
  go_enter Try.func13, Try.ntmps13
  go_wp2
  go_ret
  exact ⟨rfl, rfl⟩

set_option maxHeartbeats 2000000 in
theorem regAwake_calls (w : World) : Calls Try.prog 7 #[] w fun e w' => e = .returned (.bool true) ∧ Below w.heap.size w w' := by
  go_enter Try.func7, Try.ntmps7
  have e1 : Regs.init.run [dA, dB] 0 = none := by kernel_rfl
  have e2 : Regs.init.run [dA, dC] 0 = some 1 := by kernel_rfl
  go_wp2_with fail
  refine (Check_calls [dA, dB] _ _ (OwnSl.made (c := _) (e := 33) (ob_alloc_new _ _ _ (by simp)) (dones_ok [dA, dB]) (by rfl) (by decide)).slice).mono ?_
  rintro e w1 ⟨rfl, hb1⟩
  rw [e1, show outI none = 0 from rfl, show outB none = true from rfl]
  have s1 := hb1.size
  simp only [World.size_alloc] at s1
  have hA : ∀ i, w1.cell? ⟨w.heap.size, i, none⟩ = dA.cells.toArray[i]? := fun i => by rw [hb1.cell (by simp <;> omega)]; simp [go_sem, dA, Done.cells]
  have hC : ∀ i, w1.cell? ⟨w.heap.size + 1 + 1, i, none⟩ = dC.cells.toArray[i]? := fun i => by rw [hb1.cell (by simp <;> omega)]; simp [go_sem, dC, Done.cells]
  have b1 : Below w.heap.size w w1 := below_trans (Chg.below (by repeat (first | exact Chg.refl _ _ | refine Chg.drewN ?_ _ | refine Chg.drew ?_ | refine Chg.alloc ?_ _ | refine Chg.setCell ?_ _ _ (by simp) | refine Chg.setBlock ?_ _ _ (by simp)))) hb1
  clear hb1
  simp only [dA, dC, Done.cells] at hA hC
  go_wp2_with fail
  refine (Check_calls [dA, dC] _ _ (OwnSl.made (c := _) (e := 33) (ob_alloc_new _ _ _ (by simp)) (dones_ok [dA, dC]) (by rfl) (by decide)).slice).mono ?_
  rintro e w2 ⟨rfl, hb2⟩
  rw [e2, show outI (some 1) = 1 from rfl, show outB (some 1) = false from rfl]
  have s2 := hb2.size
  simp only [World.size_alloc] at s2
  have hA2 : ∀ i, w2.cell? ⟨w.heap.size, i, none⟩ = dA.cells.toArray[i]? := fun i => by rw [hb2.cell (by simp <;> omega), World.cell?_alloc_past _ _ _ (by omega)]; exact hA i
  have b2 : Below w.heap.size w w2 := below_trans b1 (below_trans (Chg.below (by repeat (first | exact Chg.refl _ _ | refine Chg.drewN ?_ _ | refine Chg.drew ?_ | refine Chg.alloc ?_ _ | refine Chg.setCell ?_ _ _ (by simp) | refine Chg.setBlock ?_ _ _ (by simp)))) hb2)
  clear hb2 hA hC b1
  simp only [dA, Done.cells] at hA2
  go_wp2_with fail
  refine (New_calls _).mono ?_
  rintro e w3 ⟨p, mb, db, rfl, hr, hb3, lp, lm, ld⟩
  have s3 := hb3.size
  have hA3 : ∀ i, w3.cell? ⟨w.heap.size, i, none⟩ = dA.cells.toArray[i]? := fun i => by rw [hb3.cell (by simp <;> omega)]; exact hA2 i
  have b3 : Below w.heap.size w w3 := below_trans b2 hb3
  have Hr := Lib.hid hr
  clear hb3 hA2 b2 hr
  simp only [dA, Done.cells] at hA3
  go_wp2_with fail
  refine (Do_calls p mb db _ dA _ Hr.out).mono ?_
  rintro e w4 ⟨rfl, hr4, hc4⟩
  have s4 := hc4.size
  have hA4 : ∀ i, w4.cell? ⟨w.heap.size, i, none⟩ = dA.cells.toArray[i]? := fun i => by rw [World.cell?_of_block (hc4.block _ (by simp <;> omega) (by simp <;> omega))]; exact hA3 i
  have b4 : Below w.heap.size w w4 := below_chg b3 hc4 (by intro k hk; omega)
  have Hr4 := Lib.hid hr4
  clear hA3 b3 hr4 hc4 Hr
  simp only [dA, Done.cells] at hA4
  have e3 : Regs.does ⟨fun _ => 0, fun _ => 0, 1⟩ dA = true := by kernel_rfl
  rw [e3]
  go_wp2_with fail
  refine (Value_calls p mb db _ 0 _ Hr4.out).mono ?_
  rintro e w5 ⟨rfl, rfl⟩
  have e4 : (Regs.after ⟨fun _ => 0, fun _ => 0, 1⟩ dA).values 0 = 5 := by kernel_rfl
  rw [e4]
  go_wp2_with fail
  refine (Do_calls p mb db _ dA _ Hr4.out).mono ?_
  rintro e w6 ⟨rfl, hr6, hc6⟩
  have e5 : Regs.does (Regs.after ⟨fun _ => 0, fun _ => 0, 1⟩ dA) dA = false := by kernel_rfl
  rw [e5]
  go_wp2_with fail
  go_ret
  exact ⟨rfl, below_chg b4 hc6 (by intro k hk; omega)⟩


/-! ### The plain law: what the program's registers say is what the document says -/

structure Agree (s : Regs) (l : List Done) : Prop where
  vals : ∀ b, s.values b = refVal l b
  dones : ∀ n, s.done n = cnt l n
  step : s.step = lastStep l
theorem Agree.init : Agree Regs.init [] := ⟨fun _ => rfl, fun _ => rfl, rfl⟩
theorem Agree.does {s : Regs} {l : List Done} (h : Agree s l) (hl : l.length ≤ 1000) (d : Done) : s.does d = fits l d := by
  have hc := cnt_le l d.node
  have hw : wrap64 ((cnt l d.node : Int) + 1) = (cnt l d.node : Int) + 1 := by unfold wrap64; omega
  simp only [Regs.does, fits, Regs.want, h.dones, h.step, h.vals, hw]
theorem Agree.after {s : Regs} {l : List Done} (h : Agree s l) (hl : l.length ≤ 1000) (d : Done) (hd : s.does d = true) : Agree (s.after d) (l ++ [d]) := by
  have hc := cnt_le l d.node
  have hw : wrap64 ((cnt l d.node : Int) + 1) = (cnt l d.node : Int) + 1 := by unfold wrap64; omega
  have hd' := hd
  simp only [Regs.does, Bool.and_eq_true, decide_eq_true_eq, h.dones, hw] at hd'
  simp only [Regs.after, hd, if_true]
  refine ⟨fun b => ?_, fun n => ?_, ?_⟩
  · rw [refVal_snoc]
    simp only [Regs.want, h.vals]
    by_cases hb : b = d.op.block
    · subst hb
      simp
    · rw [if_neg hb, if_neg (fun e => hb e.1.symm)]
  · rw [cnt_snoc]
    by_cases hn : n = d.node
    · subst hn
      simp [hd'.1.1]
    · simp only [if_neg hn, h.dones, if_neg (fun e => hn (Eq.symm e) : ¬ d.node = n), Nat.add_zero]
  · rw [lastStep_snoc]

theorem run_eq (l : List Done) (hl : l.length ≤ 1000) : ∀ (m k : Nat) (s : Regs), l.length - k = m → Agree s (l.take k) → s.run (l.drop k) k = refRun l k := by
  intro m
  induction m with
  | zero =>
    intro k s hm _
    rw [List.drop_of_length_le (by omega), refRun, dif_neg (by omega)]
    rfl
  | succ m ih =>
    intro k s hm hs
    have hk : k < l.length := by omega
    have hlk : (l.take k).length ≤ 1000 := by rw [List.length_take]; omega
    rw [List.drop_eq_getElem_cons hk, refRun, dif_pos hk, Regs.run, hs.does hlk]
    by_cases hf : fits (l.take k) l[k] = true
    · rw [if_pos hf, if_pos hf]
      have := hs.after hlk l[k] (by rw [hs.does hlk]; exact hf)
      rw [← take_snoc l k hk] at this
      exact ih (k + 1) _ (by omega) this
    · rw [if_neg hf, if_neg hf]
theorem run_ref (l : List Done) (hl : l.length ≤ 1000) : Regs.init.run l 0 = refRun l 0 := run_eq l hl _ 0 Regs.init rfl Agree.init

end Go.Proofs.Ytlgancadedlbiaa
