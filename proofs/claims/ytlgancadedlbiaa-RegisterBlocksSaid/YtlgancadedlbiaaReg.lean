/-
  The program's registers: what its calls come to.
-/
import Derived.Test.YtlgancadedlbiaaRows
import Derived.Test.YtlgancadedlbiaaR
namespace Go.Proofs.Ytlgancadedlbiaa
open Go.RowKit
open Go.ChangeMaps (setBlock)

theorem tyII64 : MapTy Try.prog 40 3 2 (.int .i64 0) := ⟨Try.underlying40, Try.underlying3, fun _ => by kernel_rfl⟩
theorem tyII : MapTy Try.prog 39 3 3 (.int .i64 0) := ⟨Try.underlying39, Try.underlying3, fun _ => by kernel_rfl⟩

structure Regs where
  values : Int → Int
  done : Int → Int
  step : Int

def Regs.want (s : Regs) (d : Done) : Int := if d.op.write then d.op.value else s.values d.op.block
def Regs.does (s : Regs) (d : Done) : Bool := decide (d.number = wrap64 (s.done d.node + 1)) && decide (s.step ≤ d.step) && decide (d.value = s.want d)
def Regs.after (s : Regs) (d : Done) : Regs := if s.does d then { values := fun k => if k = d.op.block then s.want d else s.values k, done := fun k => if k = d.node then d.number else s.done k, step := d.step } else s

def IntMap (f : Int → Int) (g : Int → Option Value) : Prop := ∀ k, (g k).getD (.int .i64 0) = .int .i64 (f k)

structure IsRegsAt (w : World) (p mb db : Nat) (s : Regs) : Prop where
  at_ : ob w p = some (.cells #[.map (some mb), .map (some db), .int .i64 s.step] 42 (0, 0))
  vals : ∃ o g, ob w mb = some o ∧ MapObj o g ∧ IntMap s.values g
  dones : ∃ o g, ob w db = some o ∧ MapObj o g ∧ IntMap s.done g
  ne : mb ≠ db

theorem IntMap.upd {f : Int → Int} {g : Int → Option Value} (h : IntMap f g) (k v : Int) : IntMap (fun j => if j = k then v else f j) (upd g k (.int .i64 v)) := by
  intro j
  unfold Ytlgancadedlbiaa.upd
  split
  · rename_i e; simp [e]
  · rename_i e; simp [e, h j]

theorem Do_no {p mb db : Nat} {s : Regs} {d : Done} {w w' : World} (h : IsRegsAt w p mb db s) (hd : s.does d = false) (hc : Chg (fun _ => False) w w') :
    (Ending.returned (.bool false) = .returned (.bool (s.does d))) ∧ IsRegsAt w' p mb db (s.after d) ∧ Chg (fun b => b = p ∨ b = mb ∨ b = db) w w' := by
  refine ⟨by rw [hd], ?_, hc.mono fun _ _ hf => hf.elim⟩
  obtain ⟨hp, ⟨om, gm, hm, hom, him⟩, ⟨od, gd, hd', hod, hid⟩, hne⟩ := h
  simp only [Regs.after, hd]
  exact ⟨hc.ob hp (fun e => e), ⟨om, gm, hc.ob hm (fun e => e), hom, him⟩, ⟨od, gd, hc.ob hd' (fun e => e), hod, hid⟩, hne⟩

theorem Do_yes {p mb db : Nat} {s : Regs} {d : Done} {w w' : World} (hd : s.does d = true) (hc : Chg (fun b => b = p ∨ b = mb ∨ b = db) w w')
    (hp : ob w' p = some (.cells #[.map (some mb), .map (some db), .int .i64 d.step] 42 (0, 0))) {om od : Obj} {gm gd : Int → Option Value}
    (hm : ob w' mb = some om) (hom : MapObj om (upd gm d.op.block (.int .i64 (s.want d)))) (him : IntMap s.values gm)
    (ho : ob w' db = some od) (hod : MapObj od (upd gd d.node (.int .i64 d.number))) (hid : IntMap s.done gd) (hne : mb ≠ db) :
    (Ending.returned (.bool true) = .returned (.bool (s.does d))) ∧ IsRegsAt w' p mb db (s.after d) ∧ Chg (fun b => b = p ∨ b = mb ∨ b = db) w w' := by
  refine ⟨by rw [hd], ?_, hc⟩
  simp only [Regs.after, hd]
  exact ⟨hp, ⟨om, _, hm, hom, him.upd _ _⟩, ⟨od, _, ho, hod, hid.upd _ _⟩, hne⟩

set_option maxHeartbeats 4000000 in
theorem Do_calls (p mb db : Nat) (s : Regs) (d : Done) (w : World) (h : IsRegsAt w p mb db s) :
    Calls Try.prog 11 #[.pointer (some ⟨p, 0, none⟩), d.val] w fun e w' => e = .returned (.bool (s.does d)) ∧ IsRegsAt w' p mb db (s.after d) ∧ Chg (fun b => b = p ∨ b = mb ∨ b = db) w w' := by
  have H := Lib.hid h
  obtain ⟨hp, ⟨om, gm, hm, hom, him⟩, ⟨od, gd, hd, hod, hid⟩, hne⟩ := h
  obtain ⟨node, number, ⟨block, write, opv⟩, value, step⟩ := d
  have lp := ob_lt hp
  have lm := ob_lt hm
  have ld := ob_lt hd
  have lm1 : mb < w.heap.size + 1 := Nat.lt_succ_of_lt lm
  have ld1 : db < w.heap.size + 1 := Nat.lt_succ_of_lt ld
  have nm : p ≠ mb := fun e => by subst e; rw [hp] at hm; cases hm; obtain ⟨_, _, e, _⟩ := hom; cases e
  have nd : p ≠ db := fun e => by subst e; rw [hp] at hd; cases hd; obtain ⟨_, _, e, _⟩ := hod; cases e
  have nm' := Ne.symm nm
  have nd' := Ne.symm nd
  have hne' := Ne.symm hne
  have c0 : w.cell? ⟨p, 0, none⟩ = some (.map (some mb)) := cell_ob hp _
  have c1 : w.cell? ⟨p, 1, none⟩ = some (.map (some db)) := cell_ob hp _
  have c2 : w.cell? ⟨p, 2, none⟩ = some (.int .i64 s.step) := cell_ob hp _
  have f2 : w.frozen? ⟨p, 2, none⟩ = false := frozen_ob hp _
  have hlm : ∀ (k : Int) (W : World), ob W mb = some om → (Instr.lookup 40 (.map (some mb)) (.int .i64 k) false).run Try.prog W = .ok (.int .i64 (s.values k)) W := fun k W hW => by
    rw [hom.lookup tyII64 k mb W hW, him k]
  have hld : ∀ (k : Int) (W : World), ob W db = some od → (Instr.lookup 39 (.map (some db)) (.int .i64 k) false).run Try.prog W = .ok (.int .i64 (s.done k)) W := fun k W hW => by
    rw [hod.lookup tyII k db W hW, hid k]
  obtain ⟨od1, st, hod1, hme, hes⟩ := hod.entry tyII node db
  obtain ⟨od2, hod2, hes2⟩ := hes (.int .i64 number)
  clear hes
  obtain ⟨om2, hom2, hmu⟩ := hom.update tyII64 block (.int .i64 (if write then opv else s.values block)) mb
  have Hom := Lib.hid hom2
  have Hod := Lib.hid hod2
  have Him := Lib.hid him
  have Hid := Lib.hid hid
  clear hom hom2 hod hod1 hod2 him hid
  simp only [Done.val, Done.cells]
  go_enter Try.func11, Try.ntmps11
  go_wp2_with fail
  go_quiet (fail)
  cases write
  all_goals
    simp only [Bool.false_eq_true, ↓reduceIte] at hmu
    go_wp2_with fail
    by_cases h1 : number = wrap64 (s.done node + 1)
    case neg =>
      have h1b : (number != wrap64 (s.done node + 1)) = true := by simpa using h1
      have h1' : decide (number = wrap64 (s.done node + 1)) = false := by simpa using h1
      go_quiet (fail)
      go_wp2_with fail
      go_ret
      exact Do_no H.out (by simp [Regs.does, h1]) (by repeat (first | exact Chg.refl _ _ | refine Chg.drewN ?_ _ | refine Chg.drew ?_ | refine Chg.alloc ?_ _ | refine Chg.setCell ?_ _ _ (by simp) | refine Chg.setBlock ?_ _ _ (by simp)))
    have h1' : (number != wrap64 (s.done node + 1)) = false := by simpa using h1
    have H1 := Lib.hid h1
    clear h1
    by_cases h2 : step < s.step
    case pos =>
      go_quiet (fail)
      go_wp2_with fail
      go_ret
      exact Do_no H.out (by simp [Regs.does]; intro _ hh; omega) (by repeat (first | exact Chg.refl _ _ | refine Chg.drewN ?_ _ | refine Chg.drew ?_ | refine Chg.alloc ?_ _ | refine Chg.setCell ?_ _ _ (by simp) | refine Chg.setBlock ?_ _ _ (by simp)))
    have h2' : decide (step < s.step) = false := by simpa using h2
    go_quiet (fail)
  · by_cases h3 : value = s.values block
    case neg =>
      have h3b : (value != s.values block) = true := by simpa using h3
      have h3' : decide (value = s.values block) = false := by simpa using h3
      go_wp2_with fail
      go_ret
      exact Do_no H.out (by simp [Regs.does, Regs.want, h3]) (by repeat (first | exact Chg.refl _ _ | refine Chg.drewN ?_ _ | refine Chg.drew ?_ | refine Chg.alloc ?_ _ | refine Chg.setCell ?_ _ _ (by simp) | refine Chg.setBlock ?_ _ _ (by simp)))
    have h3' : (value != s.values block) = false := by simpa using h3
    have H3 := Lib.hid h3
    clear h3
    go_wp2_with fail
    go_region
    go_wp2_with fail
    go_region
    go_wp2_with fail
    go_ret
    refine Do_yes (by simp [Regs.does, Regs.want, H1.out, H3.out]; omega) (by repeat (first | exact Chg.refl _ _ | refine Chg.drewN ?_ _ | refine Chg.drew ?_ | refine Chg.alloc ?_ _ | refine Chg.setCell ?_ _ _ (by simp) | refine Chg.setBlock ?_ _ _ (by simp))) ?_ ?_ Hom.out Him.out ?_ Hod.out Hid.out hne
    all_goals simp [go_sem, *]
  · by_cases h3 : value = opv
    case neg =>
      have h3b : (value != opv) = true := by simpa using h3
      have h3' : decide (value = opv) = false := by simpa using h3
      go_wp2_with fail
      go_ret
      exact Do_no H.out (by simp [Regs.does, Regs.want, h3]) (by repeat (first | exact Chg.refl _ _ | refine Chg.drewN ?_ _ | refine Chg.drew ?_ | refine Chg.alloc ?_ _ | refine Chg.setCell ?_ _ _ (by simp) | refine Chg.setBlock ?_ _ _ (by simp)))
    have h3' : (value != opv) = false := by simpa using h3
    have H3 := Lib.hid h3
    clear h3
    go_wp2_with fail
    go_region
    go_wp2_with fail
    go_region
    go_wp2_with fail
    go_ret
    refine Do_yes (by simp [Regs.does, Regs.want, H1.out, H3.out]; omega) (by repeat (first | exact Chg.refl _ _ | refine Chg.drewN ?_ _ | refine Chg.drew ?_ | refine Chg.alloc ?_ _ | refine Chg.setCell ?_ _ _ (by simp) | refine Chg.setBlock ?_ _ _ (by simp))) ?_ ?_ Hom.out Him.out ?_ Hod.out Hid.out hne
    all_goals simp [go_sem, *]
end Go.Proofs.Ytlgancadedlbiaa
