/-
  RegisterFront: operations that are right are so without their last ones; with one that can't be so none behind it plays a part. No condition.
-/
import Derived.Test.YtlgancadedlbiaaRegLaws
namespace Go.Proofs.Ytlgancadedlbiaa
open Go.RowKit Go.ChangeShapes Go.WideShapes Go.ChangeAt
open Go.ChangeMaps (setBlock)
set_option linter.unusedVariables false

theorem Regs.run_take (n : Nat) : ∀ (l : List Done) (s : Regs) (j n : Nat), s.run (l.take n) j = (match s.run l j with | none => none | some i => if i < j + n then some i else none)
  | [], s, j, n => by simp [Regs.run]
  | d :: l, s, j, 0 => by
    simp only [List.take_zero, Regs.run]
    have h : ∀ (l : List Done) (s : Regs) (j : Nat), (match s.run l j with | none => (none : Option Nat) | some i => if i < j + 0 then some i else none) = none := by
      intro l
      induction l with
      | nil => intro s j; rfl
      | cons d l ih =>
        intro s j
        simp only [Regs.run]
        by_cases hd : s.does d = true
        · rw [if_pos hd]
          have := ih (s.after d) (j + 1)
          revert this
          cases (s.after d).run l (j + 1) with
          | none => intro _; rfl
          | some i => simp only [Nat.add_zero]; intro h; by_cases hi : i < j + 1
                      · rw [if_pos hi] at h; cases h
                      · rw [if_neg (by omega)]
        · rw [if_neg hd]; simp
    exact (h (d :: l) s j).symm
  | d :: l, s, j, n + 1 => by
    simp only [List.take_succ_cons, Regs.run]
    by_cases hd : s.does d = true
    · rw [if_pos hd, if_pos hd, Regs.run_take n l (s.after d) (j + 1) n, show j + 1 + n = j + (n + 1) by omega]
    · rw [if_neg hd, if_neg hd]; simp
theorem Regs.run_lt : ∀ (l : List Done) (s : Regs) (j i : Nat), s.run l j = some i → j ≤ i ∧ i < j + l.length
  | [], s, j, i, h => by simp [Regs.run] at h
  | d :: l, s, j, i, h => by
    simp only [Regs.run] at h
    by_cases hd : s.does d = true
    · rw [if_pos hd] at h
      have := Regs.run_lt l _ _ _ h
      simp only [List.length_cons]
      omega
    · rw [if_neg hd] at h
      cases h
      simp

/-- What the statement asks of the two checks. -/
theorem front_plain (l : List Done) (m : Nat) :
    (outB (Regs.init.run l 0) = true → outI (Regs.init.run l 0) = 0 ∧ outB (Regs.init.run (l.take m) 0) = true ∧ outI (Regs.init.run (l.take m) 0) = 0) ∧
    (outB (Regs.init.run l 0) = false → 0 ≤ outI (Regs.init.run l 0) ∧ outI (Regs.init.run l 0) < (l.length : Int) ∧ (outB (Regs.init.run (l.take m) 0) = true ↔ (m : Int) ≤ outI (Regs.init.run l 0)) ∧
       (outB (Regs.init.run (l.take m) 0) = false → outI (Regs.init.run (l.take m) 0) = outI (Regs.init.run l 0))) := by
  have h1 := Regs.run_take m l Regs.init 0 m
  have h2 := Regs.run_lt l Regs.init 0
  cases hr : Regs.init.run l 0 with
  | none =>
    rw [hr] at h1
    rw [h1]
    simp [outB, outI]
  | some i =>
    rw [hr] at h1
    have h3 := h2 i hr
    rw [h1]
    dsimp only
    by_cases hi : i < 0 + m
    · rw [if_pos hi]
      simp [outB, outI]
      omega
    · rw [if_neg hi]
      simp [outB, outI]
      omega

set_option maxHeartbeats 4000000 in
theorem registerFront_walk (l : List Done) (v : Value) (w : World) (hsl : SliceIs w 7 v (l.map Done.cells)) (hok : ∀ d ∈ l, d.ok) (n : Int) (hn : i64ok n) :
    Calls Try.prog 5 #[v, .int .i64 n] w fun e w' => e = .returned (.bool true) ∧ Below w.heap.size w w' := by
  have HL := Lib.hid hsl
  obtain ⟨A, cap, rfl, h1, h2, h3⟩ := hsl
  simp only [List.length_map] at h1 h2 h3 HL ⊢
  clear h3 hok
  by_cases hg : l.length ≤ 200 ∧ 0 ≤ n ∧ n ≤ (l.length : Int)
  case neg =>
    go_enter Try.func5, Try.ntmps5
    by_cases q1 : (200 : Int) < (l.length : Int)
    · clear hg
      go_wp2_with (go_at_call 7; refine (regAwake_calls _).mono ?_; rintro e w1 ⟨rfl, hb1⟩)
      go_ret
      exact ⟨rfl, below_trans ‹Below w.heap.size w _› hb1⟩
    have q1' : decide ((200 : Int) < (l.length : Int)) = false := by simpa using q1
    by_cases q2 : n < 0
    · clear hg
      go_wp2_with (go_at_call 7; refine (regAwake_calls _).mono ?_; rintro e w1 ⟨rfl, hb1⟩)
      go_ret
      exact ⟨rfl, below_trans ‹Below w.heap.size w _› hb1⟩
    have q2' : decide (n < 0) = false := by simpa using q2
    by_cases q3 : (l.length : Int) < n
    · clear hg
      go_wp2_with (go_at_call 7; refine (regAwake_calls _).mono ?_; rintro e w1 ⟨rfl, hb1⟩)
      go_ret
      exact ⟨rfl, below_trans ‹Below w.heap.size w _› hb1⟩
    exact absurd ⟨by omega, by omega, by omega⟩ hg
  obtain ⟨hl, hn0, hn1⟩ := hg
  obtain ⟨m, rfl⟩ := Int.eq_ofNat_of_zero_le hn0
  have hm : m ≤ l.length := by omega
  have g1 : decide ((200 : Int) < (l.length : Int)) = false := by simp; omega
  have g2 : decide ((m : Int) < 0) = false := by simp
  have g3 : decide ((l.length : Int) < (m : Int)) = false := by simp; omega
  have HP := Lib.hid (front_plain l m)
  go_enter Try.func5, Try.ntmps5
  go_wp2_with fail
  refine (regAwake_calls _).mono ?_
  rintro e w1 ⟨rfl, hb1⟩
  go_wp2_with (at_builtin; refine wpList_append_sl (xs := []) (ys := l.map Done.cells) rfl _ _ rfl tyDones rfl rfl (OwnSl.made (c := #[]) (ob_alloc_new _ _ _ (by simp)) RowsOk.nil rfl (by decide)) (HL.out.below (below_trans hb1 (Chg.below (by repeat (first | exact Chg.refl _ _ | refine Chg.drewN ?_ _ | refine Chg.drew ?_ | refine Chg.alloc ?_ _ | refine Chg.setCell ?_ _ _ (by simp) | refine Chg.setBlock ?_ _ _ (by simp)))))) (dones_ok l) (by simp; omega) ?_; intro v2 w2 ho hc _)
  have b2 : Below w.heap.size w w2 := below_chg (below_trans hb1 (Chg.below (by repeat (first | exact Chg.refl _ _ | refine Chg.drewN ?_ _ | refine Chg.drew ?_ | refine Chg.alloc ?_ _ | refine Chg.setCell ?_ _ _ (by simp) | refine Chg.setBlock ?_ _ _ (by simp))))) hc (fun k hk he => by have he' : w1.heap.size = k := Option.some.inj he; have := hb1.size; omega)
  refine (Check_calls l _ _ ho.slice).mono ?_
  rintro e w3 ⟨rfl, hb3⟩
  have b3 := below_trans b2 hb3
  clear ho hc b2 hb3
  generalize Regs.init.run l 0 = r1 at *
  go_wp2_with (first
    | (refine wpList_slice_to rfl 22 33 _ _ rfl Try.underlying22 ⟨_, rfl⟩ A l.length cap m rfl rfl (by omega) ?_)
    | (at_builtin; refine wpList_append_sl (xs := []) (ys := (l.map Done.cells).take m) rfl _ _ rfl tyDones rfl rfl (OwnSl.made (c := #[]) (ob_alloc_new _ _ _ (by simp)) RowsOk.nil rfl (by decide)) ((HL.out.below (below_trans b3 (Chg.below (by repeat (first | exact Chg.refl _ _ | refine Chg.drewN ?_ _ | refine Chg.drew ?_ | refine Chg.alloc ?_ _ | refine Chg.setCell ?_ _ _ (by simp) | refine Chg.setBlock ?_ _ _ (by simp)))))).take (by omega)) (by rw [← List.map_take]; exact dones_ok _) (by simp; omega) ?_; intro v4 w4 ho hc _))
  have b4 : Below w.heap.size w w4 := below_chg (below_trans b3 (Chg.below (by repeat (first | exact Chg.refl _ _ | refine Chg.drewN ?_ _ | refine Chg.drew ?_ | refine Chg.alloc ?_ _ | refine Chg.setCell ?_ _ _ (by simp) | refine Chg.setBlock ?_ _ _ (by simp))))) hc (fun k hk he => by have he' : w3.heap.size = k := Option.some.inj he; have := b3.size; omega)
  rw [List.nil_append, ← List.map_take] at ho
  refine (Check_calls (l.take m) _ _ ho.slice).mono ?_
  rintro e w5 ⟨rfl, hb5⟩
  have b5 := below_trans b4 hb5
  clear ho hc b4 hb5
  generalize Regs.init.run (l.take m) 0 = r2 at *
  obtain ⟨i1, ei1⟩ : ∃ i, i = outI r1 := ⟨_, rfl⟩
  obtain ⟨i2, ei2⟩ : ∃ i, i = outI r2 := ⟨_, rfl⟩
  obtain ⟨b1, eb1⟩ : ∃ b, b = outB r1 := ⟨_, rfl⟩
  obtain ⟨b2, eb2⟩ : ∃ b, b = outB r2 := ⟨_, rfl⟩
  have hp := HP.out
  rw [← ei1, ← ei2, ← eb1, ← eb2] at hp
  rw [← ei1, ← ei2, ← eb1, ← eb2]
  clear HP ei1 ei2 eb1 eb2
  have Hp := Lib.hid hp
  clear hp
  cases b1 <;> cases b2
  all_goals
    go_wp2_with fail
  all_goals
    go_ret
    refine ⟨retb ?_, b5⟩
    obtain ⟨hp1, hp2⟩ := Hp.out
    clear Hp
    first
      | rfl
      | (exfalso; simp_all <;> omega)
      | (simp at hp1 hp2 ⊢; first | done | omega | (simp_all; done) | (simp_all; omega))

set_option maxRecDepth 100000 in
theorem registerFront_lifted (os : Os) (started : os.Started) (H : Type) (enc : TypeId × Value → H) :
    ReturnsInHanded {} Try.checked os 5 .any (Rows.registerFrontSpec.pre6 enc Try.prog Try.f5 Rows.registerFrontRow.domain false) (Rows.registerFrontSpec.post enc Try.prog Try.f5 false true false false) := by
  refine returnsInHanded_of_change (C := Try.checked) law_own started (by kernel_rfl) Try.func5
    (ChangeSpec.witness6 (enc := enc) (C := Try.checked) false ⟨#[], #[.slice none 0 0, .int .i64 0], []⟩ 8 (by kernel_rfl) (by kernel_rfl) (by kernel_rfl) (by kernel_rfl)) ?_
  intro W base args ds gs before hval0 hW hcnd _
  have hval : ∀ (j : Nat) t v, Try.f5.params[j]? = some t → args[j]? = some v → Value.okWide Try.prog W .any base t v := hval0
  have hW' := hW
  obtain ⟨p, q, hA0, hV, rfl, hfz, hnd⟩ := hW
  have hA : DataW.TrodAll enc Try.prog W 0 (fun _ => true) true Try.f5.params.toList args.toList ds p := hA0
  rw [Try.params5] at hA hval
  obtain ⟨v0, vs0, d0, ds0, p0, q0, hargs, rfl, rfl, h0, r0⟩ := trodAll_cons hA
  obtain ⟨v1, vs1, d1, ds1, p1, q1, rfl, rfl, rfl, h1, r1⟩ := trodAll_cons r0
  obtain ⟨rfl, rfl, rfl⟩ := trodAll_nil r1
  obtain rfl : args = #[v0, v1] := by cases args; simp_all
  obtain ⟨rfl, rfl⟩ := trodVars_none hV
  have k0 := h0
  have lt0 : ∀ x ∈ p0, x.block < W.heap.size := by obtain ⟨m, hm⟩ := k0; exact DataW.trod_lt m _ _ _ hm
  obtain ⟨f0, g0⟩ := h0
  obtain ⟨l0, s0, o0⟩ := slice_of_trod (sz := 7) (cells := Done.cells) (ok := Done.ok) Try.underlying22 (by kernel_rfl) (by decide) (fun _ => rfl) Done.of_trod g0 (okWide_slice Try.underlying22 (hval 0 22 v0 rfl rfl))
  have k1 := h1
  have lt1 : ∀ x ∈ p1, x.block < W.heap.size := by obtain ⟨m, hm⟩ := k1; exact DataW.trod_lt m _ _ _ hm
  obtain ⟨f1, g1⟩ := h1
  obtain ⟨x1, e1, o1⟩ := int_of_trod g1
  obtain rfl := one_value (hval 1 3 v1 rfl rfl) Try.underlying3 e1
  clear hA0 hval0
  refine (registerFront_walk l0 v0 W s0 o0 x1 o1).mono fun e W' ⟨he, bel⟩ => ?_
  subst he
  exact ⟨_, rfl, _, _, _, [], _, [], hW', trodAll_mk1 (shut_bool Try.underlying4 _), (trodAll_cons_mk (Below.trod law_laidOut (by kernel_rfl) (of_decide_eq_true (by kernel_rfl)) k0 bel lt0) (trodAll_cons_mk (Below.trod law_laidOut (by kernel_rfl) (of_decide_eq_true (by kernel_rfl)) k1 bel lt1) trodAll_mk0)), rfl, bel.frame _, fun h => by cases h⟩

theorem registerFront_holds : Rows.RegisterFrontSaid :=
  OpenClaim.holds_of_wide 5 Try.f5 rfl rfl rfl rfl rfl rfl rfl ⟨rfl, rfl, rfl, rfl, rfl⟩ rfl rfl rfl rfl rfl (by kernel_rfl) Try.func5 (by kernel_rfl)
    (of_decide_eq_true (by kernel_rfl)) (by unfold Func.isWrapper; first | (rw [if_pos (by decide +kernel)]; kernel_rfl) | (rw [if_neg (by decide +kernel)]; exact ⟨rfl, rfl⟩))
    (fun os started H enc _ => registerFront_lifted os started H enc)
end Go.Proofs.Ytlgancadedlbiaa
