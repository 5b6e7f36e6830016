/-
  CacheStores: a store is done just if all tokens are in the line, with the value, and then loads tell its value; a load just if one is. No condition.
-/
import Derived.Test.YtocnhmakgbdbfaaCaL
import Derived.Test.YtocnhmakgbdbfaaCaP4
namespace Go.Proofs.Ytocnhmakgbdbfaa
open Go.RowKit Go.Sort Go.ChangeShapes Go.WideShapes Go.ChangeAt
open Go.ChangeMaps (setBlock)
set_option linter.unusedVariables false
set_option linter.unusedSimpArgs false

set_option maxHeartbeats 8000000 in
set_option maxRecDepth 100000 in
theorem cacheStores_walk (h : Bundle) (hh : h.ok) (tokens : Int) (hcnt : i64ok tokens) (op : Op) (hw : op.ok) (w : World) :
    Calls Try.prog 7 #[h.val, .int .i64 tokens, op.val] w fun e w' => e = .returned (.bool true) ∧ Below w.heap.size w w' := by
  clear hh hcnt hw
  have hchk := Lib.hid (@Bundle.check_zero h 1048576)
  have hRR := Lib.hid (RefRight_calls h 1048576)
  simp only [Bundle.val, Bundle.cells, Op.val, Op.cells]
  go_enter Try.func7, Try.ntmps7
  go_wp2_with fail
  refine (caAwake_calls _).mono ?_
  rintro e w1 ⟨rfl, hb1⟩
  have o0 : ob w1 w.heap.size = some (.cells #[.int .i64 h.count, .bool h.owner, .bool h.has, .int .i64 h.data] 47 (0, 0)) := (Chg.of_below (S := fun _ => False) hb1).ob (by simp [go_sem]) (fun h => h)
  have o1 : ob w1 (w.heap.size + 1) = some (.cells #[.int .i64 op.block, .bool op.write, .int .i64 op.value] 49 (0, 0)) := (Chg.of_below (S := fun _ => False) hb1).ob (by simp [go_sem]) (fun h => h)
  have b1 : Below w.heap.size w w1 := below_trans (Chg.below (by repeat (first | with_reducible exact Chg.refl _ _ | with_reducible exact chg0 | with_reducible refine Chg.drewN ?_ _ | with_reducible refine Chg.drew ?_ | with_reducible refine Chg.alloc ?_ _ | with_reducible refine Chg.setCell ?_ _ _ (by first | (simp; done) | omega | (simp; omega)) | with_reducible refine Chg.setBlock ?_ _ _ (by first | (simp; done) | omega | (simp; omega)) | exact Chg.refl _ _))) hb1
  have B1 := Lib.hid b1
  obtain ⟨a0, a1, a2, a3, af⟩ := ob_cells4 o0
  obtain ⟨p0, p1, p2, pf⟩ := ob_cells3 o1
  have l0 := ob_lt o0
  have l1 := ob_lt o1
  clear hb1 b1
  go_wp2_with fail
  refine (hRR.out _).mono ?_
  rintro e w2 ⟨rfl, hb2⟩
  have hb2' : Below w1.heap.size w1 w2 := below_trans (Chg.below (by repeat (first | with_reducible exact Chg.refl _ _ | with_reducible exact chg0 | with_reducible refine Chg.drewN ?_ _ | with_reducible refine Chg.drew ?_ | with_reducible refine Chg.alloc ?_ _ | with_reducible refine Chg.setCell ?_ _ _ (by first | (simp; done) | omega | (simp; omega)) | with_reducible refine Chg.setBlock ?_ _ _ (by first | (simp; done) | omega | (simp; omega)) | exact Chg.refl _ _))) hb2
  obtain ⟨r, hr⟩ : ∃ r, r = decide (h.check 1048576 = 0) := ⟨_, rfl⟩
  rw [← hr]
  have HR := Lib.hid hr
  clear hr
  have ch2 : Chg (fun _ => False) w1 w2 := Chg.of_below hb2'
  replace o0 := ch2.ob o0 (fun h => h)
  replace o1 := ch2.ob o1 (fun h => h)
  clear a0 a1 a2 a3 af l0 l1 p0 p1 p2 pf hb2
  obtain ⟨a0, a1, a2, a3, af⟩ := ob_cells4 o0
  obtain ⟨p0, p1, p2, pf⟩ := ob_cells3 o1
  have l0 := ob_lt o0
  have l1 := ob_lt o1
  cases r
  · go_wp2_with fail
    refine (caAwake_calls _).mono ?_
    rintro e w3 ⟨rfl, hb3⟩
    go_wp2_with fail
    go_ret
    exact ⟨rfl, below_trans B1.out (below_trans hb2' (below_trans (Chg.below (by repeat (first | with_reducible exact Chg.refl _ _ | with_reducible exact chg0 | with_reducible refine Chg.drewN ?_ _ | with_reducible refine Chg.drew ?_ | with_reducible refine Chg.alloc ?_ _ | with_reducible refine Chg.setCell ?_ _ _ (by first | (simp; done) | omega | (simp; omega)) | with_reducible refine Chg.setBlock ?_ _ _ (by first | (simp; done) | omega | (simp; omega)) | exact Chg.refl _ _))) hb3))⟩
  by_cases hneg : op.block < 0
  · have hneg' : decide (op.block < 0) = true := by simpa using hneg
    go_wp2_with fail
    refine (caAwake_calls _).mono ?_
    rintro e w3 ⟨rfl, hb3⟩
    go_wp2_with fail
    go_ret
    exact ⟨rfl, below_trans B1.out (below_trans hb2' (below_trans (Chg.below (by repeat (first | with_reducible exact Chg.refl _ _ | with_reducible exact chg0 | with_reducible refine Chg.drewN ?_ _ | with_reducible refine Chg.drew ?_ | with_reducible refine Chg.alloc ?_ _ | with_reducible refine Chg.setCell ?_ _ _ (by first | (simp; done) | omega | (simp; omega)) | with_reducible refine Chg.setBlock ?_ _ _ (by first | (simp; done) | omega | (simp; omega)) | exact Chg.refl _ _))) hb3))⟩
  have hneg' : decide (op.block < 0) = false := by simpa using hneg
  have hpos : 0 ≤ op.block := by omega
  obtain ⟨hg, hc20⟩ := hchk.out.1 (of_decide_eq_true HR.out.symm)
  have G := Lib.hid hg
  have s1 := st1 hg op hpos tokens
  have s2 := st2 hg op hpos tokens
  have S1 := Lib.hid s1
  have S2 := Lib.hid s2
  have HNG := Lib.hid hneg
  clear hg s1 s2 hneg
  go_wp2_with fail
  refine (CacheNew_calls 1 1 _).mono ?_
  rintro e w3 ⟨p, F3, rfl, h3, hF3, hb3⟩
  have A3 := Lib.hid (show Ca0 w2 w3 p (CacheM.new 1 1) F3 from ⟨h3, hF3, below_trans (Chg.below (by repeat (first | with_reducible exact Chg.refl _ _ | with_reducible exact chg0 | with_reducible refine Chg.drewN ?_ _ | with_reducible refine Chg.drew ?_ | with_reducible refine Chg.alloc ?_ _ | with_reducible refine Chg.setCell ?_ _ _ (by first | (simp; done) | omega | (simp; omega)) | with_reducible refine Chg.setBlock ?_ _ _ (by first | (simp; done) | omega | (simp; omega)) | exact Chg.refl _ _))) hb3⟩)
  have old : ∀ (W : World) (c : CacheM) (F : Nat → Prop), Ca0 w2 W p c F → ob W w.heap.size = some (.cells #[.int .i64 h.count, .bool h.owner, .bool h.has, .int .i64 h.data] 47 (0, 0)) ∧ ob W (w.heap.size + 1) = some (.cells #[.int .i64 op.block, .bool op.write, .int .i64 op.value] 49 (0, 0)) := fun W c F hA =>
    ⟨(Chg.of_below (S := fun _ => False) hA.below).ob o0 (fun h => h), (Chg.of_below (S := fun _ => False) hA.below).ob o1 (fun h => h)⟩
  have OLD := Lib.hid old
  clear h3 hF3 hb3 old a0 a1 a2 a3 af l0 l1 p0 p1 p2 pf o0 o1 hneg'
  obtain ⟨x0, x1⟩ := OLD.out _ _ _ A3.out
  obtain ⟨a0, a1, a2, a3, af⟩ := ob_cells4 x0
  obtain ⟨p0, p1, p2, pf⟩ := ob_cells3 x1
  have l0 := ob_lt x0
  have l1 := ob_lt x1
  go_wp2_with fail
  refine (Absorb_calls op.block h (-1) (A3.out.same (Chg.below (by repeat (first | with_reducible exact Chg.refl _ _ | with_reducible exact chg0 | with_reducible refine Chg.drewN ?_ _ | with_reducible refine Chg.drew ?_ | with_reducible refine Chg.alloc ?_ _ | with_reducible refine Chg.setCell ?_ _ _ (by first | (simp; done) | omega | (simp; omega)) | with_reducible refine Chg.setBlock ?_ _ _ (by first | (simp; done) | omega | (simp; omega)) | exact Chg.refl _ _)))).here G.out (by simp [CacheM.new, Bundle.none]; omega)).mono ?_
  rintro e w4 ⟨rfl, F4, h4, m4⟩
  have A4 := Lib.hid (show Ca0 w2 w4 p (st0 op.block h) F4 from (A3.out.same (Chg.below (by repeat (first | with_reducible exact Chg.refl _ _ | with_reducible exact chg0 | with_reducible refine Chg.drewN ?_ _ | with_reducible refine Chg.drew ?_ | with_reducible refine Chg.alloc ?_ _ | with_reducible refine Chg.setCell ?_ _ _ (by first | (simp; done) | omega | (simp; omega)) | with_reducible refine Chg.setBlock ?_ _ _ (by first | (simp; done) | omega | (simp; omega)) | exact Chg.refl _ _)))).moves h4 m4)
  clear h4 m4 a0 a1 a2 a3 af l0 l1 p0 p1 p2 pf x0 x1
  obtain ⟨x0, x1⟩ := OLD.out _ _ _ A4.out
  obtain ⟨a0, a1, a2, a3, af⟩ := ob_cells4 x0
  obtain ⟨p0, p1, p2, pf⟩ := ob_cells3 x1
  have l0 := ob_lt x0
  have l1 := ob_lt x1
  generalize ((CacheM.new 1 1).absorb op.block h (-1)).2 = ab
  simp only [Line.val, Line.cells]
  go_wp2_with fail
  refine (CacheDo_calls op tokens (A4.out.same (Chg.below (by repeat (first | with_reducible exact Chg.refl _ _ | with_reducible exact chg0 | with_reducible refine Chg.drewN ?_ _ | with_reducible refine Chg.drew ?_ | with_reducible refine Chg.alloc ?_ _ | with_reducible refine Chg.setCell ?_ _ _ (by first | (simp; done) | omega | (simp; omega)) | with_reducible refine Chg.setBlock ?_ _ _ (by first | (simp; done) | omega | (simp; omega)) | exact Chg.refl _ _)))).here).mono ?_
  rintro e w5 ⟨rfl, F5, h5, m5⟩
  rw [S1.out]
  have A5 := Lib.hid ((A4.out.same (Chg.below (by repeat (first | with_reducible exact Chg.refl _ _ | with_reducible exact chg0 | with_reducible refine Chg.drewN ?_ _ | with_reducible refine Chg.drew ?_ | with_reducible refine Chg.alloc ?_ _ | with_reducible refine Chg.setCell ?_ _ _ (by first | (simp; done) | omega | (simp; omega)) | with_reducible refine Chg.setBlock ?_ _ _ (by first | (simp; done) | omega | (simp; omega)) | exact Chg.refl _ _)))).moves h5 m5)
  clear h5 m5 a0 a1 a2 a3 af l0 l1 p0 p1 p2 pf x0 x1
  obtain ⟨x0, x1⟩ := OLD.out _ _ _ A5.out
  obtain ⟨a0, a1, a2, a3, af⟩ := ob_cells4 x0
  obtain ⟨p0, p1, p2, pf⟩ := ob_cells3 x1
  have l0 := ob_lt x0
  have l1 := ob_lt x1
  obtain ⟨m1, hm1⟩ : ∃ m, m = h.may op.write tokens := ⟨_, rfl⟩
  obtain ⟨m2, hm2⟩ : ∃ m, m = h.may false tokens := ⟨_, rfl⟩
  rw [← hm1, ← hm2] at S2
  rw [← hm1]
  rw [may_eq] at hm1 hm2
  obtain ⟨v1, hv1⟩ : ∃ v, v = if m1 = true then (if op.write = true then op.value else h.data) else 0 := ⟨_, rfl⟩
  obtain ⟨v2, hv2⟩ : ∃ v, v = if m2 = true then (if m1 = true ∧ op.write = true then op.value else h.data) else 0 := ⟨_, rfl⟩
  rw [← hv2] at S2
  rw [← hv1]
  have V1 := Lib.hid hv1
  have V2 := Lib.hid hv2
  have M1 := Lib.hid hm1
  have M2 := Lib.hid hm2
  clear hv1 hv2 hm1 hm2
  go_wp2_with fail
  refine (CacheDo_calls ⟨op.block, false, 0⟩ tokens (A5.out.same (Chg.below (by repeat (first | with_reducible exact Chg.refl _ _ | with_reducible exact chg0 | with_reducible refine Chg.drewN ?_ _ | with_reducible refine Chg.drew ?_ | with_reducible refine Chg.alloc ?_ _ | with_reducible refine Chg.setCell ?_ _ _ (by first | (simp; done) | omega | (simp; omega)) | with_reducible refine Chg.setBlock ?_ _ _ (by first | (simp; done) | omega | (simp; omega)) | exact Chg.refl _ _)))).here).mono ?_
  rintro e w6 ⟨rfl, F6, h6, m6⟩
  rw [S2.out]
  have A6 := Lib.hid ((A5.out.same (Chg.below (by repeat (first | with_reducible exact Chg.refl _ _ | with_reducible exact chg0 | with_reducible refine Chg.drewN ?_ _ | with_reducible refine Chg.drew ?_ | with_reducible refine Chg.alloc ?_ _ | with_reducible refine Chg.setCell ?_ _ _ (by first | (simp; done) | omega | (simp; omega)) | with_reducible refine Chg.setBlock ?_ _ _ (by first | (simp; done) | omega | (simp; omega)) | exact Chg.refl _ _)))).moves h6 m6)
  clear h6 m6 a0 a1 a2 a3 af l0 l1 p0 p1 p2 pf x0 x1
  obtain ⟨x0, x1⟩ := OLD.out _ _ _ A6.out
  obtain ⟨a0, a1, a2, a3, af⟩ := ob_cells4 x0
  obtain ⟨p0, p1, p2, pf⟩ := ob_cells3 x1
  have l0 := ob_lt x0
  have l1 := ob_lt x1
  clear x0 x1
  obtain ⟨wr, hwr⟩ : ∃ b, b = op.write := ⟨_, rfl⟩
  obtain ⟨hs, hhs⟩ : ∃ b, b = h.has := ⟨_, rfl⟩
  rw [← hwr] at V1 V2 M1 p1
  rw [← hhs] at M1 M2 a2
  clear hwr hhs
  have bfin : Below w.heap.size w w6 := below_trans B1.out (below_trans hb2' A6.out.below)
  have BF := Lib.hid bfin
  clear bfin
  by_cases q1 : 0 < h.count <;> by_cases q2 : h.count = tokens <;> cases wr <;> cases hs
  all_goals
    have e1 := M1.out
    have e2 := M2.out
    simp [q1, q2] at e1 e2
    subst e1
    subst e2
    have e3 := V1.out
    have e4 := V2.out
    simp at e3 e4
    subst e3
    subst e4
    clear M1 M2 V1 V2 S1 S2 HNG OLD A3 A4 A5 hchk hRR G HR B1 hb2' ch2 hpos hc20
    (first | have q1' := decide_eq_true q1 | have q1' := decide_eq_false q1)
    (first | subst q2 | have q2' := beq_eq_false_iff_ne.2 q2)
    (try clear q2)
    clear q1
    go_wp2_with fail
    all_goals
      go_ret
      refine ⟨?_, below_trans BF.out (Chg.below (by repeat (first | with_reducible exact Chg.refl _ _ | with_reducible exact chg0 | with_reducible refine Chg.drewN ?_ _ | with_reducible refine Chg.drew ?_ | with_reducible refine Chg.alloc ?_ _ | with_reducible refine Chg.setCell ?_ _ _ (by first | (simp; done) | omega | (simp; omega)) | with_reducible refine Chg.setBlock ?_ _ _ (by first | (simp; done) | omega | (simp; omega)) | exact Chg.refl _ _)))⟩
      first | rfl | exact retb (by first | (simp; done) | (exfalso; simp at q1'; omega)) | (exfalso; simp_all; omega)
set_option maxRecDepth 100000 in
theorem cacheStores_lifted (os : Os) (started : os.Started) (H : Type) (enc : TypeId × Value → H) :
    ReturnsInHanded {} Try.checked os 7 .any (Rows.cacheStoresSpec.pre6 enc Try.prog Try.f7 Rows.cacheStoresRow.domain false) (Rows.cacheStoresSpec.post enc Try.prog Try.f7 false true false false) := by
  refine returnsInHanded_of_change (C := Try.checked) law_own started (by kernel_rfl) Try.func7
    (ChangeSpec.witness6 (enc := enc) (C := Try.checked) false ⟨#[], #[.agg #[.int .i64 0, .bool false, .bool false, .int .i64 0], .int .i64 0, .agg #[.int .i64 0, .bool false, .int .i64 0]], []⟩ 8 (by kernel_rfl) (by kernel_rfl) (by kernel_rfl) (by kernel_rfl)) ?_
  intro W base args ds gs before hval0 hW hcnd _
  have hval : ∀ (j : Nat) t v, Try.f7.params[j]? = some t → args[j]? = some v → Value.okWide Try.prog W .any base t v := hval0
  have hW' := hW
  obtain ⟨p, q, hA0, hV, rfl, hfz, hnd⟩ := hW
  have hA : DataW.TrodAll enc Try.prog W 0 (fun _ => true) true Try.f7.params.toList args.toList ds p := hA0
  rw [Try.params7] at hA hval
  obtain ⟨v0, vs0, d0, ds0, p0, q0, hargs, rfl, rfl, h0, r0⟩ := trodAll_cons hA
  obtain ⟨v1, vs1, d1, ds1, p1, q1, rfl, rfl, rfl, h1, r1⟩ := trodAll_cons r0
  obtain ⟨v2, vs2, d2, ds2, p2, q2, rfl, rfl, rfl, h2, r2⟩ := trodAll_cons r1
  obtain ⟨rfl, rfl, rfl⟩ := trodAll_nil r2
  obtain rfl : args = #[v0, v1, v2] := by cases args; simp_all
  obtain ⟨rfl, rfl⟩ := trodVars_none hV
  have k0 := h0
  have lt0 : ∀ x ∈ p0, x.block < W.heap.size := by obtain ⟨m, hm⟩ := k0; exact DataW.trod_lt m _ _ _ hm
  obtain ⟨f0, g0⟩ := h0
  obtain ⟨cs0, rfl, _⟩ := okWide_struct Try.underlying47 (hval 0 47 v0 rfl rfl)
  obtain ⟨x0, e0, o0⟩ := Bundle.of_trod g0
  obtain rfl : cs0 = x0.cells.toArray := by simp only [Value.cells] at e0; rw [← e0]
  have k1 := h1
  have lt1 : ∀ x ∈ p1, x.block < W.heap.size := by obtain ⟨m, hm⟩ := k1; exact DataW.trod_lt m _ _ _ hm
  obtain ⟨f1, g1⟩ := h1
  obtain ⟨x1, e1, o1⟩ := int_of_trod g1
  obtain rfl := one_value (hval 1 3 v1 rfl rfl) Try.underlying3 e1
  have k2 := h2
  have lt2 : ∀ x ∈ p2, x.block < W.heap.size := by obtain ⟨m, hm⟩ := k2; exact DataW.trod_lt m _ _ _ hm
  obtain ⟨f2, g2⟩ := h2
  obtain ⟨cs2, rfl, _⟩ := okWide_struct Try.underlying49 (hval 2 49 v2 rfl rfl)
  obtain ⟨x2, e2, o2⟩ := Op.of_trod g2
  obtain rfl : cs2 = x2.cells.toArray := by simp only [Value.cells] at e2; rw [← e2]
  clear hA0 hval0
  refine (cacheStores_walk x0 o0 x1 o1 x2 o2 W).mono fun e W' ⟨he, bel⟩ => ?_
  subst he
  exact ⟨_, rfl, _, _, _, [], _, [], hW', trodAll_mk1 (shut_bool Try.underlying4 _), (trodAll_cons_mk (Below.trod law_laidOut (by kernel_rfl) (of_decide_eq_true (by kernel_rfl)) k0 bel lt0) (trodAll_cons_mk (Below.trod law_laidOut (by kernel_rfl) (of_decide_eq_true (by kernel_rfl)) k1 bel lt1) (trodAll_cons_mk (Below.trod law_laidOut (by kernel_rfl) (of_decide_eq_true (by kernel_rfl)) k2 bel lt2) trodAll_mk0))), rfl, bel.frame _, fun h => by cases h⟩

theorem cacheStores_holds : Rows.CacheStoresSaid :=
  OpenClaim.holds_of_wide 7 Try.f7 rfl rfl rfl rfl rfl rfl rfl ⟨rfl, rfl, rfl, rfl, rfl⟩ rfl rfl rfl rfl rfl (by kernel_rfl) Try.func7 (by kernel_rfl)
    (of_decide_eq_true (by kernel_rfl)) (by unfold Func.isWrapper; first | (rw [if_pos (by decide +kernel)]; kernel_rfl) | (rw [if_neg (by decide +kernel)]; exact ⟨rfl, rfl⟩))
    (fun os started H enc _ => cacheStores_lifted os started H enc)
end Go.Proofs.Ytocnhmakgbdbfaa
