/-
  RegisterValues: registers have the values of the last stores that were done; what can't be done changes nothing. No condition.
-/
import Derived.Test.YtlgancadedlbiaaRegLaws
namespace Go.Proofs.Ytlgancadedlbiaa
open Go.RowKit Go.ChangeShapes Go.WideShapes Go.ChangeAt
open Go.ChangeMaps (setBlock)
set_option linter.unusedVariables false

theorem value_agree (p mb db : Nat) (s : Regs) (D : List Done) (b : Int) (w : World) (h : IsRegsAt w p mb db s) (ha : Agree s D) :
    Calls Try.prog 13 #[.pointer (some ⟨p, 0, none⟩), .int .i64 b] w fun e w' => e = .returned (.int .i64 (refVal D b)) ∧ w = w' :=
  (Value_calls p mb db s b w h).mono fun e w' ⟨he, hw⟩ => ⟨by rw [he, ha.vals], hw⟩

/-- What was done so far, after one operation more. -/
def didAfter (s : Regs) (D : List Done) (d : Done) : List Done := if s.does d then D ++ [d] else D
theorem Agree.did {s : Regs} {D : List Done} (h : Agree s D) (hl : D.length ≤ 1000) (d : Done) : Agree (s.after d) (didAfter s D d) := by
  unfold didAfter
  by_cases hd : s.does d = true
  · rw [if_pos hd]; exact h.after hl d hd
  · rw [if_neg hd, Regs.after, if_neg hd]; exact h

/-- The slice of what was done lies in none of the registers' blocks. -/
theorem own_apart {w : World} {p mb db : Nat} {s : Regs} {v : Value} {rows : List (List Value)} (h : IsRegsAt w p mb db s) (ho : OwnSl w 33 7 v rows) : ∀ k, v.ownBlock = some k → ¬ (k = p ∨ k = mb ∨ k = db) := by
  intro k hk
  obtain ⟨c, hc⟩ := ho.typed hk
  obtain ⟨hp, ⟨om, gm, hm, ⟨_, _, e1, _⟩, _⟩, ⟨od, gd, hd, ⟨_, _, e2, _⟩, _⟩, _⟩ := h
  rintro (rfl | rfl | rfl)
  · rw [hp] at hc; injection hc with hc; injection hc with _ hc; revert hc; decide
  · rw [hm, e1] at hc; cases hc
  · rw [hd, e2] at hc; cases hc

set_option maxHeartbeats 4000000 in
theorem registerValues_walk (l : List Done) (v : Value) (w : World) (hsl : SliceIs w 7 v (l.map Done.cells)) (hok : ∀ d ∈ l, d.ok) (blk : Int) (hblk : i64ok blk) :
    Calls Try.prog 4 #[v, .int .i64 blk] w fun e w' => e = .returned (.bool true) ∧ Below w.heap.size w w' := by
  have HL := Lib.hid hsl
  obtain ⟨A, cap, rfl, h1, h2, h3⟩ := hsl
  simp only [List.length_map] at h1 h2 h3 HL ⊢
  have H3 := Lib.hid h3
  clear h3 hok
  go_enter Try.func4, Try.ntmps4
  by_cases h200 : (200 : Int) < (l.length : Int)
  · go_wp2_with (go_at_call 7; refine (regAwake_calls _).mono ?_; rintro e w1 ⟨rfl, hb1⟩)
    go_ret
    exact ⟨rfl, below_trans ‹Below w.heap.size w _› hb1⟩
  have h200' : decide ((200 : Int) < (l.length : Int)) = false := by simpa using h200
  go_wp2_with (first
    | (go_at_call 7; refine (regAwake_calls _).mono ?_; rintro e w1 ⟨rfl, hb1⟩)
    | (go_at_call 10; refine (New_calls _).mono ?_; rintro e w2 ⟨p, mb, db, rfl, hr, hb2, lp, lm, ld⟩))
  have b2 : Below w.heap.size w w2 := below_trans hb1 hb2
  have s1 := hb1.size
  go_loopw [6, 23] (fun v i wr => ∃ (k : Nat) (s : Regs) (D : List Done), k ≤ l.length ∧ i = .int .i64 k ∧ D.length ≤ k ∧ Agree s D ∧ IsRegsAt wr p mb db s ∧ OwnSl wr 33 7 v (D.map Done.cells) ∧ (∀ j, v.ownBlock = some j → w.heap.size ≤ j) ∧ Below w.heap.size w wr) (fun _ i _ => l.length - (intOf i).toNat)
  case atStart => exact ⟨0, Regs.init, [], Nat.zero_le _, rfl, Nat.le_refl _, Agree.init, hr, OwnSl.nil, fun j hj => by simp [Value.ownBlock] at hj, b2⟩
  case round =>
    obtain ⟨k, s, D, hk, rfl, hDk, hag, hrs, hown, hlo, hbr⟩ := hrel
    have Hag := Lib.hid hag
    have Hrs := Lib.hid hrs
    have Hown := Lib.hid hown
    have Hlo := Lib.hid hlo
    have Hbr := Lib.hid hbr
    clear hag hrs hown hlo hbr hr hb2 hb1 b2
    by_cases hlt : k < l.length
    · obtain ⟨g, off, rfl, hrows⟩ := H3.out (by omega)
      have hrow := doneAt hrows Hbr.out hlt
      obtain ⟨d, hd⟩ : ∃ d, d = l[k] := ⟨_, rfl⟩
      rw [← hd] at hrow
      obtain ⟨c0, c1, c2, c3, c4, c5, c6⟩ := Done.range hrow
      clear hd hrow hrows
      have sr := Hbr.out.size
      have lpr := ob_lt Hrs.out.at_
      have lmr : mb < wr.heap.size := by obtain ⟨_, _, h, _⟩ := Hrs.out.vals; exact ob_lt h
      have ldr : db < wr.heap.size := by obtain ⟨_, _, h, _⟩ := Hrs.out.dones; exact ob_lt h
      go_wp2_with fail
      refine (Do_calls p mb db s d _ (Hrs.out.chg (S := fun _ => False) (by repeat (first | exact Chg.refl _ _ | refine Chg.drewN ?_ _ | refine Chg.drew ?_ | refine Chg.alloc ?_ _ | refine Chg.setCell ?_ _ _ (by simp) | refine Chg.setBlock ?_ _ _ (by simp))) (fun e => e) (fun e => e) (fun e => e))).mono ?_
      rintro e w3 ⟨rfl, hr3, hc3⟩
      have hcc : Chg (fun b => b = p ∨ b = mb ∨ b = db) wr w3 := Chg.trans (S' := fun b => b = p ∨ b = mb ∨ b = db) (by repeat (first | exact Chg.refl _ _ | refine Chg.drewN ?_ _ | refine Chg.drew ?_ | refine Chg.alloc ?_ _ | refine Chg.setCell ?_ _ _ (by simp) | refine Chg.setBlock ?_ _ _ (by simp))) hc3 (fun _ _ h => h)
      have s3 := hc3.size
      simp only [World.size_alloc] at s3
      have hd3 : ∀ i, w3.cell? ⟨wr.heap.size, i, none⟩ = d.cells.toArray[i]? := fun i => by
        rw [World.cell?_of_block (hc3.block _ (by simp) (by simp <;> omega))]
        simp [go_sem, Done.cells]
      have Own3 := Lib.hid (Hown.out.chg hcc (own_apart Hrs.out Hown.out))
      have B3 := Lib.hid (below_chg Hbr.out hcc (by intro k hk; omega))
      have Hr3 := Lib.hid hr3
      clear hr3 hcc hc3
      simp only [Done.cells] at hd3
      rw [Hag.out.does (by omega) d]
      go_wp2_with fail
      refine (refFits_calls D d _ _ Own3.out.slice (by omega)).mono ?_
      rintro e w4 ⟨rfl, hb4⟩
      have s4 := hb4.size
      have hd4 : ∀ i, w4.cell? ⟨wr.heap.size, i, none⟩ = d.cells.toArray[i]? := fun i => by rw [hb4.cell (by simp <;> omega)]; exact hd3 i
      simp only [Done.cells] at hd4
      have Own4 := Lib.hid (Own3.out.chg (Chg.of_below hb4) (S := fun _ => False) (fun _ _ h => h))
      have B4 := Lib.hid (below_trans B3.out hb4)
      have Hr4 := Lib.hid (Hr3.out.chg (S := fun _ => False) (Chg.of_below hb4) (fun h => h) (fun h => h) (fun h => h))
      have Ag' := Lib.hid (Hag.out.did (by omega) d)
      have hdl : (didAfter s D d).length ≤ k + 1 := by unfold didAfter; split <;> (try simp) <;> omega
      have Hdid := Lib.hid (show didAfter s D d = if fits D d = true then D ++ [d] else D by unfold didAfter; rw [Hag.out.does (by omega) d])
      clear hb4 hd3 Own3 B3 Hr3
      generalize hF : fits D d = fb at *
      clear hF
      cases fb
      · have hD : didAfter s D d = D := by rw [Hdid.out]; simp
        rw [hD] at Ag' hdl
        clear Hdid hD
        go_wp2_with fail
        go_quiet ((first
          | (go_at_call 13; exact (value_agree p mb db (s.after d) D _ _ (Hr4.out.chg (S := fun _ => False) (by repeat (first | exact Chg.refl _ _ | refine Chg.drewN ?_ _ | refine Chg.drew ?_ | refine Chg.alloc ?_ _ | refine Chg.setCell ?_ _ _ (by simp) | refine Chg.setBlock ?_ _ _ (by simp))) (fun h => h) (fun h => h) (fun h => h)) Ag'.out).mono (fun _ _ h => ⟨h.1, _, h.2.symm⟩))
          | (go_at_call 14; exact (refValue_calls D _ _ _ (Own4.out.slice.below (Chg.below (by repeat (first | exact Chg.refl _ _ | refine Chg.drewN ?_ _ | refine Chg.drew ?_ | refine Chg.alloc ?_ _ | refine Chg.setCell ?_ _ _ (by simp) | refine Chg.setBlock ?_ _ _ (by simp)))))).mono (fun _ _ h => ⟨h.1, _, h.2.symm⟩))))
        go_wp2
        exact ⟨⟨k + 1, s.after d, D, by omega, by go_num, hdl, Ag'.out, Hr4.out.chg (S := fun _ => False) (by repeat (first | exact Chg.refl _ _ | refine Chg.drewN ?_ _ | refine Chg.drew ?_ | refine Chg.alloc ?_ _ | refine Chg.setCell ?_ _ _ (by simp) | refine Chg.setBlock ?_ _ _ (by simp))) (fun h => h) (fun h => h) (fun h => h), Own4.out.chg (S := fun _ => False) (by repeat (first | exact Chg.refl _ _ | refine Chg.drewN ?_ _ | refine Chg.drew ?_ | refine Chg.alloc ?_ _ | refine Chg.setCell ?_ _ _ (by simp) | refine Chg.setBlock ?_ _ _ (by simp))) (fun _ _ h => h), Hlo.out, below_trans B4.out (Chg.below (by repeat (first | exact Chg.refl _ _ | refine Chg.drewN ?_ _ | refine Chg.drew ?_ | refine Chg.alloc ?_ _ | refine Chg.setCell ?_ _ _ (by simp) | refine Chg.setBlock ?_ _ _ (by simp))))⟩, by simp [intOf]; omega⟩
      · have hD : didAfter s D d = D ++ [d] := by rw [Hdid.out]; simp
        rw [hD] at Ag' hdl
        clear Hdid hD
        go_wp2_with (at_builtin; refine wpList_append_sl (xs := D.map Done.cells) (ys := [d.cells]) rfl _ _ rfl tyDones rfl rfl (Own4.out.chg (S := fun _ => False) (by repeat (first | exact Chg.refl _ _ | refine Chg.drewN ?_ _ | refine Chg.drew ?_ | refine Chg.alloc ?_ _ | refine Chg.setCell ?_ _ _ (by simp) | refine Chg.setBlock ?_ _ _ (by simp))) (fun _ _ h => h)) (OwnSl.made (e := 33) (ob_alloc_new _ _ _ rfl) (dones_ok [d]) rfl (by simp)).slice (dones_ok [d]) (by simp; omega) ?_; intro v5 w5 ho hc hloc)
        have hcc : Chg (fun j => u6.ownBlock = some j) w4 w5 := Chg.trans (S' := fun j => u6.ownBlock = some j) (by repeat (first | exact Chg.refl _ _ | refine Chg.drewN ?_ _ | refine Chg.drew ?_ | refine Chg.alloc ?_ _ | refine Chg.setCell ?_ _ _ (by simp) | refine Chg.setBlock ?_ _ _ (by simp))) hc (fun _ _ h => h)
        have hd5 : ∀ i, w5.cell? ⟨wr.heap.size, i, none⟩ = d.cells.toArray[i]? := fun i => by
          rw [World.cell?_of_block (hcc.block _ (by simp <;> omega) (fun he => Nat.lt_irrefl _ (Hown.out.lt he)))]
          exact hd4 i
        have B5 := Lib.hid (below_chg B4.out hcc (fun j hj he => by have := Hlo.out j he; omega))
        have hap := own_apart Hr4.out Own4.out
        have Hr5 := Lib.hid (Hr4.out.chg hcc (fun he => hap p he (.inl rfl)) (fun he => hap mb he (.inr (.inl rfl))) (fun he => hap db he (.inr (.inr rfl))))
        have Own5 : RowKit.Hid (OwnSl w5 33 7 v5 ((D ++ [d]).map Done.cells)) := Lib.hid (by rw [List.map_append]; exact ho)
        have Lo5 : RowKit.Hid (∀ j, v5.ownBlock = some j → w.heap.size ≤ j) := Lib.hid (fun j hj => by
          rcases hloc with h | h
          · rw [h] at hj; exact Hlo.out j hj
          · rw [h] at hj; injection hj with hj; rw [← hj]; simp; omega)
        clear ho hc hloc hcc hap hd4
        simp only [Done.cells] at hd5
        go_quiet ((first
          | (go_at_call 13; exact (value_agree p mb db (s.after d) (D ++ [d]) _ _ (Hr5.out.chg (S := fun _ => False) (by repeat (first | exact Chg.refl _ _ | refine Chg.drewN ?_ _ | refine Chg.drew ?_ | refine Chg.alloc ?_ _ | refine Chg.setCell ?_ _ _ (by simp) | refine Chg.setBlock ?_ _ _ (by simp))) (fun h => h) (fun h => h) (fun h => h)) Ag'.out).mono (fun _ _ h => ⟨h.1, _, h.2.symm⟩))
          | (go_at_call 14; exact (refValue_calls (D ++ [d]) _ _ _ (Own5.out.slice.below (Chg.below (by repeat (first | exact Chg.refl _ _ | refine Chg.drewN ?_ _ | refine Chg.drew ?_ | refine Chg.alloc ?_ _ | refine Chg.setCell ?_ _ _ (by simp) | refine Chg.setBlock ?_ _ _ (by simp)))))).mono (fun _ _ h => ⟨h.1, _, h.2.symm⟩))))
        go_wp2
        exact ⟨⟨k + 1, s.after d, D ++ [d], by omega, by go_num, hdl, Ag'.out, Hr5.out.chg (S := fun _ => False) (by repeat (first | exact Chg.refl _ _ | refine Chg.drewN ?_ _ | refine Chg.drew ?_ | refine Chg.alloc ?_ _ | refine Chg.setCell ?_ _ _ (by simp) | refine Chg.setBlock ?_ _ _ (by simp))) (fun h => h) (fun h => h) (fun h => h), Own5.out.chg (S := fun _ => False) (by repeat (first | exact Chg.refl _ _ | refine Chg.drewN ?_ _ | refine Chg.drew ?_ | refine Chg.alloc ?_ _ | refine Chg.setCell ?_ _ _ (by simp) | refine Chg.setBlock ?_ _ _ (by simp))) (fun _ _ h => h), Lo5.out, below_trans B5.out (Chg.below (by repeat (first | exact Chg.refl _ _ | refine Chg.drewN ?_ _ | refine Chg.drew ?_ | refine Chg.alloc ?_ _ | refine Chg.setCell ?_ _ _ (by simp) | refine Chg.setBlock ?_ _ _ (by simp))))⟩, by simp [intOf]; omega⟩
    · go_wp2
      go_ret
      exact ⟨rfl, Hbr.out⟩

set_option maxRecDepth 100000 in
theorem registerValues_lifted (os : Os) (started : os.Started) (H : Type) (enc : TypeId × Value → H) :
    ReturnsInHanded {} Try.checked os 4 .any (Rows.registerValuesSpec.pre6 enc Try.prog Try.f4 Rows.registerValuesRow.domain false) (Rows.registerValuesSpec.post enc Try.prog Try.f4 false true false false) := by
  refine returnsInHanded_of_change (C := Try.checked) law_own started (by kernel_rfl) Try.func4
    (ChangeSpec.witness6 (enc := enc) (C := Try.checked) false ⟨#[], #[.slice none 0 0, .int .i64 0], []⟩ 8 (by kernel_rfl) (by kernel_rfl) (by kernel_rfl) (by kernel_rfl)) ?_
  intro W base args ds gs before hval0 hW hcnd _
  have hval : ∀ (j : Nat) t v, Try.f4.params[j]? = some t → args[j]? = some v → Value.okWide Try.prog W .any base t v := hval0
  have hW' := hW
  obtain ⟨p, q, hA0, hV, rfl, hfz, hnd⟩ := hW
  have hA : DataW.TrodAll enc Try.prog W 0 (fun _ => true) true Try.f4.params.toList args.toList ds p := hA0
  rw [Try.params4] at hA hval
  obtain ⟨v0, vs0, d0, ds0, p0, q0, hargs, rfl, rfl, h0, r0⟩ := trodAll_cons hA
  obtain ⟨v1, vs1, d1, ds1, p1, q1, rfl, rfl, rfl, h1, r1⟩ := trodAll_cons r0
  obtain ⟨rfl, rfl, rfl⟩ := trodAll_nil r1
  obtain rfl : args = #[v0, v1] := by cases args; simp_all
  obtain ⟨rfl, rfl⟩ := trodVars_none hV
  have k0 := h0
  have lt0 : ∀ x ∈ p0, x.block < W.heap.size := by obtain ⟨m, hm⟩ := k0; exact DataW.trod_lt m _ _ _ hm
  obtain ⟨f0, g0⟩ := h0
  obtain ⟨l0, s0, o0⟩ := slice_of_trod (sz := 7) (cells := Done.cells) (ok := Done.ok) Try.underlying22 (by kernel_rfl) (by decide) (fun _ => rfl) Done.of_trod g0 (okWide_slice Try.underlying22 (hval 0 22 v0 rfl rfl))
  have k1 := h1
  have lt1 : ∀ x ∈ p1, x.block < W.heap.size := by obtain ⟨m, hm⟩ := k1; exact DataW.trod_lt m _ _ _ hm
  obtain ⟨f1, g1⟩ := h1
  obtain ⟨x1, e1, o1⟩ := int_of_trod g1
  obtain rfl := one_value (hval 1 3 v1 rfl rfl) Try.underlying3 e1
  clear hA0 hval0
  refine (registerValues_walk l0 v0 W s0 o0 x1 o1).mono fun e W' ⟨he, bel⟩ => ?_
  subst he
  exact ⟨_, rfl, _, _, _, [], _, [], hW', trodAll_mk1 (shut_bool Try.underlying4 _), (trodAll_cons_mk (Below.trod law_laidOut (by kernel_rfl) (of_decide_eq_true (by kernel_rfl)) k0 bel lt0) (trodAll_cons_mk (Below.trod law_laidOut (by kernel_rfl) (of_decide_eq_true (by kernel_rfl)) k1 bel lt1) trodAll_mk0)), rfl, bel.frame _, fun h => by cases h⟩

theorem registerValues_holds : Rows.RegisterValuesSaid :=
  OpenClaim.holds_of_wide 4 Try.f4 rfl rfl rfl rfl rfl rfl rfl ⟨rfl, rfl, rfl, rfl, rfl⟩ rfl rfl rfl rfl rfl (by kernel_rfl) Try.func4 (by kernel_rfl)
    (of_decide_eq_true (by kernel_rfl)) (by unfold Func.isWrapper; first | (rw [if_pos (by decide +kernel)]; kernel_rfl) | (rw [if_neg (by decide +kernel)]; exact ⟨rfl, rfl⟩))
    (fun os started H enc _ => registerValues_lifted os started H enc)
end Go.Proofs.Ytlgancadedlbiaa
