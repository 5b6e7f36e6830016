/-
  RegisterChecks: of any operations the program's check answers just what the document's does. No condition.
-/
import Derived.Test.YtlgancadedlbiaaRegLaws
namespace Go.Proofs.Ytlgancadedlbiaa
open Go.RowKit Go.ChangeShapes Go.WideShapes Go.ChangeAt
open Go.ChangeMaps (setBlock)
set_option linter.unusedVariables false

set_option maxHeartbeats 1000000 in
theorem registerChecks_walk (l : List Done) (v : Value) (w : World) (hsl : SliceIs w 7 v (l.map Done.cells)) (_ : ∀ d ∈ l, d.ok) :
    Calls Try.prog 3 #[v] w fun e w' => e = .returned (.bool true) ∧ Below w.heap.size w w' := by
  have HL := Lib.hid hsl
  obtain ⟨A, cap, rfl, h1, h2, h3⟩ := hsl
  simp only [List.length_map] at h1 h2 h3 HL ⊢
  clear h3
  go_enter Try.func3, Try.ntmps3
  by_cases h200 : (200 : Int) < (l.length : Int)
  · go_wp2_with (go_at_call 7; refine (regAwake_calls _).mono ?_; rintro e w1 ⟨rfl, hb1⟩)
    go_ret
    exact ⟨rfl, below_trans ‹Below w.heap.size w _› hb1⟩
  · have h200' : decide ((200 : Int) < (l.length : Int)) = false := by simpa using h200
    go_wp2_with fail
    refine (regAwake_calls _).mono ?_
    rintro e w1 ⟨rfl, hb1⟩
    go_wp2_with (at_builtin; refine wpList_append_sl (xs := []) (ys := l.map Done.cells) rfl _ _ rfl tyDones rfl rfl (OwnSl.made (c := #[]) (ob_alloc_new _ _ _ (by simp)) RowsOk.nil rfl (by decide)) (HL.out.below (below_trans hb1 (Chg.below (by repeat (first | exact Chg.refl _ _ | refine Chg.drewN ?_ _ | refine Chg.drew ?_ | refine Chg.alloc ?_ _ | refine Chg.setCell ?_ _ _ (by simp) | refine Chg.setBlock ?_ _ _ (by simp)))))) (dones_ok l) (by simp; omega) ?_; intro v2 w2 ho hc _)
    have b2 : Below w.heap.size w w2 := below_chg (below_trans hb1 (Chg.below (by repeat (first | exact Chg.refl _ _ | refine Chg.drewN ?_ _ | refine Chg.drew ?_ | refine Chg.alloc ?_ _ | refine Chg.setCell ?_ _ _ (by simp) | refine Chg.setBlock ?_ _ _ (by simp))))) hc (fun k hk he => by have he' : w1.heap.size = k := Option.some.inj he; have := hb1.size; omega)
    refine (Check_calls l _ _ ho.slice).mono ?_
    rintro e w3 ⟨rfl, hb3⟩
    rw [run_ref l (by omega)]
    have b3 := below_trans b2 hb3
    go_wp2_with fail
    refine (refCheck_calls l _ _ (HL.out.below b3) (by omega)).mono ?_
    rintro e w4 ⟨rfl, hb4⟩
    go_wp2_with fail
    go_ret
    exact ⟨by simp, below_trans b3 hb4⟩

set_option maxRecDepth 100000 in
theorem registerChecks_lifted (os : Os) (started : os.Started) (H : Type) (enc : TypeId × Value → H) :
    ReturnsInHanded {} Try.checked os 3 .any (Rows.registerChecksSpec.pre6 enc Try.prog Try.f3 Rows.registerChecksRow.domain false) (Rows.registerChecksSpec.post enc Try.prog Try.f3 false true false false) := by
  refine returnsInHanded_of_change (C := Try.checked) law_own started (by kernel_rfl) Try.func3
    (ChangeSpec.witness6 (enc := enc) (C := Try.checked) false ⟨#[], #[.slice none 0 0], []⟩ 8 (by kernel_rfl) (by kernel_rfl) (by kernel_rfl) (by kernel_rfl)) ?_
  intro W base args ds gs before hval0 hW hcnd _
  have hval : ∀ (j : Nat) t v, Try.f3.params[j]? = some t → args[j]? = some v → Value.okWide Try.prog W .any base t v := hval0
  have hW' := hW
  obtain ⟨p, q, hA0, hV, rfl, hfz, hnd⟩ := hW
  have hA : DataW.TrodAll enc Try.prog W 0 (fun _ => true) true Try.f3.params.toList args.toList ds p := hA0
  rw [Try.params3] at hA hval
  obtain ⟨v0, vs0, d0, ds0, p0, q0, hargs, rfl, rfl, h0, r0⟩ := trodAll_cons hA
  obtain ⟨rfl, rfl, rfl⟩ := trodAll_nil r0
  obtain rfl : args = #[v0] := by cases args; simp_all
  obtain ⟨rfl, rfl⟩ := trodVars_none hV
  have k0 := h0
  have lt0 : ∀ x ∈ p0, x.block < W.heap.size := by obtain ⟨m, hm⟩ := k0; exact DataW.trod_lt m _ _ _ hm
  obtain ⟨f0, g0⟩ := h0
  obtain ⟨l0, s0, o0⟩ := slice_of_trod (sz := 7) (cells := Done.cells) (ok := Done.ok) Try.underlying22 (by kernel_rfl) (by decide) (fun _ => rfl) Done.of_trod g0 (okWide_slice Try.underlying22 (hval 0 22 v0 rfl rfl))
  clear hA0 hval0
  refine (registerChecks_walk l0 v0 W s0 o0).mono fun e W' ⟨he, bel⟩ => ?_
  subst he
  exact ⟨_, rfl, _, _, _, [], _, [], hW', trodAll_mk1 (shut_bool Try.underlying4 _), (trodAll_cons_mk (Below.trod law_laidOut (by kernel_rfl) (of_decide_eq_true (by kernel_rfl)) k0 bel lt0) trodAll_mk0), rfl, bel.frame _, fun h => by cases h⟩

theorem registerChecks_holds : Rows.RegisterChecksSaid :=
  OpenClaim.holds_of_wide 3 Try.f3 rfl rfl rfl rfl rfl rfl rfl ⟨rfl, rfl, rfl, rfl, rfl⟩ rfl rfl rfl rfl rfl (by kernel_rfl) Try.func3 (by kernel_rfl)
    (of_decide_eq_true (by kernel_rfl)) (by unfold Func.isWrapper; first | (rw [if_pos (by decide +kernel)]; kernel_rfl) | (rw [if_neg (by decide +kernel)]; exact ⟨rfl, rfl⟩))
    (fun os started H enc _ => registerChecks_lifted os started H enc)
end Go.Proofs.Ytlgancadedlbiaa
