/-
  The program's check of a list of operations: what it comes to.
-/
import Derived.Test.YtlgancadedlbiaaReg
namespace Go.Proofs.Ytlgancadedlbiaa
open Go.RowKit
open Go.ChangeMaps (setBlock)

theorem New_calls (w : World) : Calls Try.prog 10 #[] w fun e w' => ∃ p mb db, e = .returned (.pointer (some ⟨p, 0, none⟩)) ∧ IsRegsAt w' p mb db ⟨fun _ => 0, fun _ => 0, 1⟩ ∧ Below w.heap.size w w' ∧ w.heap.size ≤ p ∧ w.heap.size ≤ mb ∧ w.heap.size ≤ db := by
  have hmm := @run_makeMap Try.prog
  go_enter Try.func10, Try.ntmps10
  go_wp2_with fail
  go_ret
  refine ⟨w.heap.size + 1 + 1, w.heap.size, w.heap.size + 1, rfl, ⟨?_, ⟨.map #[] 0, _, ?_, MapObj.empty 0, fun _ => rfl⟩, ⟨.map #[] 0, _, ?_, MapObj.empty 0, fun _ => rfl⟩, by omega⟩, ?_, by omega, by omega, by omega⟩
  · exact ob_alloc_new _ _ _ (by simp)
  · rw [ob_alloc_past _ _ _ (by simp; omega), ob_alloc_past _ _ _ (by simp), ob_alloc_at]
  · rw [ob_alloc_past _ _ _ (by simp), ob_alloc_new _ _ _ (by simp)]
  · exact (((Chg.refl (fun _ => False) w).alloc _).alloc _ |>.alloc _).below

theorem IsRegsAt.chg {w w' : World} {p mb db : Nat} {s : Regs} {S : Nat → Prop} (h : IsRegsAt w p mb db s) (hc : Chg S w w') (h1 : ¬ S p) (h2 : ¬ S mb) (h3 : ¬ S db) : IsRegsAt w' p mb db s := by
  obtain ⟨hp, ⟨om, gm, hm, hom, him⟩, ⟨od, gd, hd', hod, hid⟩, hne⟩ := h
  exact ⟨hc.ob hp h1, ⟨om, gm, hc.ob hm h2, hom, him⟩, ⟨od, gd, hc.ob hd' h3, hod, hid⟩, hne⟩

/-- The place of the first operation that can't be so. -/
def Regs.run : Regs → List Done → Nat → Option Nat
  | _, [], _ => none
  | s, d :: l, i => if s.does d then (s.after d).run l (i + 1) else some i
def Regs.init : Regs := ⟨fun _ => 0, fun _ => 0, 1⟩
def outI (r : Option Nat) : Int := match r with | none => 0 | some i => i
def outB (r : Option Nat) : Bool := r.isNone

set_option maxHeartbeats 1000000 in
theorem Check_calls (l : List Done) (v : Value) (w : World) (hl : SliceIs w 7 v (l.map Done.cells)) :
    Calls Try.prog 8 #[v] w fun e w' => e = .returned (.tuple #[.int .i64 (outI (Regs.init.run l 0)), .bool (outB (Regs.init.run l 0))]) ∧ Below w.heap.size w w' := by
  have HL := Lib.hid hl
  obtain ⟨A, cap, rfl, h1, h2, h3⟩ := hl
  simp only [List.length_map] at h1 h2 h3 ⊢
  have H3 := Lib.hid h3
  clear h3
  go_enter Try.func8, Try.ntmps8
  go_wp2_with (go_at_call 10; refine (New_calls _).mono ?_; rintro e w1 ⟨p, mb, db, rfl, hr, hb, bp, bm, bd⟩)
  go_loopw [10] (fun i wr => ∃ (k : Nat) (s : Regs), k ≤ l.length ∧ i = .int .i64 k ∧ IsRegsAt wr p mb db s ∧ Regs.init.run l 0 = s.run (l.drop k) k ∧ Below w.heap.size w wr) (fun i _ => l.length - (intOf i).toNat)
  case atStart => exact ⟨0, Regs.init, Nat.zero_le _, rfl, hr, rfl, hb⟩
  case round =>
    obtain ⟨k, s, hk, rfl, hrs, hrun, hbr⟩ := hrel
    have Hrun := Lib.hid hrun
    have Hrs := Lib.hid hrs
    have Hbr := Lib.hid hbr
    clear hrun hrs hbr hr hb
    by_cases hlt : k < l.length
    · obtain ⟨b, off, rfl, hrows⟩ := H3.out (by omega)
      have hrow : wr.rangeAt b (off + k * 7) (l[k]).cells := rangeAt_below (hrows k _ (by simp [hlt])) Hbr.out
      have hwk : ∃ d, d = l[k] := ⟨_, rfl⟩
      obtain ⟨d, hd⟩ := hwk
      rw [← hd] at hrow
      obtain ⟨c0, c1, c2, c3, c4, c5, c6⟩ := Done.range hrow
      have hdrop : l.drop k = d :: l.drop (k + 1) := by rw [hd]; exact List.drop_eq_getElem_cons hlt
      have Hdrop := Lib.hid hdrop
      clear hdrop hd hrow
      go_wp2_with (go_at_call 11; refine (Do_calls p mb db s d _ (Hrs.out.chg (S := fun _ => False) (by repeat (first | exact Chg.refl _ _ | refine Chg.drewN ?_ _ | refine Chg.drew ?_ | refine Chg.alloc ?_ _ | refine Chg.setCell ?_ _ _ (by simp) | refine Chg.setBlock ?_ _ _ (by simp))) (fun e => e) (fun e => e) (fun e => e))).mono ?_; rintro e w2 ⟨rfl, hr2, hc2⟩)
      all_goals have hb2 : Below w.heap.size w w2 := below_chg (below_trans Hbr.out (Chg.below (by repeat (first | exact Chg.refl _ _ | refine Chg.drewN ?_ _ | refine Chg.drew ?_ | refine Chg.alloc ?_ _ | refine Chg.setCell ?_ _ _ (by simp) | refine Chg.setBlock ?_ _ _ (by simp))))) hc2 (fun k hk => by omega)
      · rename_i hdo
        have hdo' : ¬ s.does d = true := by simpa using hdo
        go_ret2
        exact ⟨by rw [Hrun.out, Hdrop.out, Regs.run, if_neg hdo']; rfl, hb2⟩
      · rename_i hdo
        have hdo' : s.does d = true := by simpa using hdo
        exact ⟨⟨k + 1, s.after d, by omega, by go_num, hr2, by rw [Hrun.out, Hdrop.out, Regs.run, if_pos hdo'], hb2⟩, by simp [intOf]; omega⟩
    · go_wp2
      go_ret2
      exact ⟨by rw [Hrun.out, List.drop_of_length_le (by omega)]; rfl, Hbr.out⟩
end Go.Proofs.Ytlgancadedlbiaa
