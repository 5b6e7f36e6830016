/-
  LinesOrder: blocks that are added to a set go in the order in which they were added. No condition.
-/
import Derived.Test.YtocnhmakgbdbfaaLnL
import Derived.Test.YtocnhmakgbdbfaaLnP2
import Derived.Deep.LoopGhost
import Derived.Deep.CutBlock
import Derived.Deep.QuietTactic
namespace Go.Proofs.Ytocnhmakgbdbfaa
open Go.RowKit Go.Sort Go.ChangeShapes Go.WideShapes Go.ChangeAt
open Go.ChangeMaps (setBlock)
set_option linter.unusedVariables false
set_option linter.unusedSimpArgs false

set_option maxHeartbeats 4000000 in
set_option maxRecDepth 20000 in
theorem linesOrder_walk (sizes : Pair) (hs : sizes.ok) (first : Int) (hf : i64ok first) (n : Int) (hn : i64ok n) (w : World) :
    Calls Try.prog 3 #[sizes.val, .int .i64 first, .int .i64 n] w fun e w' => e = .returned (.bool true) ∧ Below w.heap.size w w' := by
  clear hs hf hn
  obtain ⟨s0, s1⟩ := sizes
  simp only [Pair.val, Pair.cells]
  obtain ⟨z, hz⟩ : ∃ z, z = clampI s0 1 64 := ⟨_, rfl⟩
  obtain ⟨y, hy⟩ : ∃ y, y = clampI s1 1 16 := ⟨_, rfl⟩
  have z1 := (clampI_in s0 1 64 (by decide)).1
  have z2 := (clampI_in s0 1 64 (by decide)).2
  have y1 := (clampI_in s1 1 16 (by decide)).1
  have y2 := (clampI_in s1 1 16 (by decide)).2
  rw [← hz] at z1 z2
  rw [← hy] at y1 y2
  have HZ := Lib.hid hz
  have HY := Lib.hid hy
  clear hz hy
  go_enter Try.func3, Try.ntmps3
  go_wp2_with fail
  go_quiet ((go_at_call 13; exact Calls.quiet_of_same ((RefClamp_calls _ _ _ _ (by decide)).mono fun _ _ h => ⟨h.1, h.2.symm⟩)))
  rw [← HZ.out, ← HY.out]
  go_wp2_with fail
  refine (lnAwake_calls _).mono ?_
  rintro e w1 ⟨rfl, hb1'⟩
  have hb1 : Below w.heap.size w w1 := below_trans (Chg.below (by repeat (first | with_reducible exact Chg.refl _ _ | with_reducible exact chg0 | with_reducible refine Chg.drewN ?_ _ | with_reducible refine Chg.drew ?_ | with_reducible refine Chg.alloc ?_ _ | with_reducible refine Chg.setCell ?_ _ _ (by first | (simp; done) | omega | (simp; omega)) | with_reducible refine Chg.setBlock ?_ _ _ (by first | (simp; done) | omega | (simp; omega)) | exact Chg.refl _ _))) hb1'
  by_cases q1 : first < 0
  · have q1' : decide (first < 0) = true := by simpa using q1
    go_wp2_with fail
    refine (lnAwake_calls _).mono ?_
    rintro e w2 ⟨rfl, hb2⟩
    go_wp2_with fail
    go_ret
    exact ⟨rfl, below_trans hb1 hb2⟩
  have q1' : decide (first < 0) = false := by simpa using q1
  by_cases q2 : (1000 : Int) < first
  · have q2' : decide ((1000 : Int) < first) = true := by simpa using q2
    go_wp2_with fail
    refine (lnAwake_calls _).mono ?_
    rintro e w2 ⟨rfl, hb2⟩
    go_wp2_with fail
    go_ret
    exact ⟨rfl, below_trans hb1 hb2⟩
  have q2' : decide ((1000 : Int) < first) = false := by simpa using q2
  go_wp2_with fail
  refine (LinesNew_calls z y _).mono ?_
  rintro e w2 ⟨p, F1, rfl, hp, hF1, hb2⟩
  have T1 : At0 w1 w2 p (Lines.new z y) F1 := ⟨hp, hF1, below_trans (Chg.below (by repeat (first | with_reducible exact Chg.refl _ _ | with_reducible exact chg0 | with_reducible refine Chg.drewN ?_ _ | with_reducible refine Chg.drew ?_ | with_reducible refine Chg.alloc ?_ _ | with_reducible refine Chg.setCell ?_ _ _ (by first | (simp; done) | omega | (simp; omega)) | with_reducible refine Chg.setBlock ?_ _ _ (by first | (simp; done) | omega | (simp; omega)) | exact Chg.refl _ _))) hb2⟩
  have HT1 := Lib.hid T1
  have B1 := Lib.hid hb1
  have HO := Lib.hid (RowUp.new (first := first) z1 z2 y1 y2)
  clear T1 hp hF1 hb2 hb1 hb1'
  go_wp2_with fail
  refine (RefMod_calls n 40 _ (by decide) (by decide)).mono ?_
  rintro e w3 ⟨rfl, rfl⟩
  obtain ⟨m, hm⟩ : ∃ m : Nat, n % 40 = (m : Int) := ⟨(n % 40).toNat, by omega⟩
  have hm40 : m < 40 := by omega
  rw [hm]
  clear hm
  obtain ⟨Y, rfl⟩ : ∃ Y : Nat, y = (Y : Int) := ⟨y.toNat, by omega⟩
  rw [show ((Y : Int)).toNat = Y from rfl] at HO
  go_wp2_with fail
  go_loopg [40] m (fun g i wx => ∃ (wr : World) (k : Nat) (s : Lines) (F : Nat → Prop), wx = wr ∧ k ≤ m ∧ g = m - k ∧ i = .int .i64 k ∧ At0 w1 wr p s F ∧ RowUp s z first Y k)
  case atStart => exact ⟨_, 0, _, F1, rfl, Nat.zero_le _, rfl, rfl, HT1.out, HO.out⟩
  case round =>
    obtain ⟨wr, k, s, F, rfl, hk, rfl, rfl, hT, hO⟩ := hrel
    clear HO HT1
    have HT := Lib.hid hT
    have HO := Lib.hid hO
    have sr := hT.below.size
    clear hT hO
    by_cases hlt : k < m
    · have hmul : ∀ j : Nat, j < 40 → 0 ≤ (j : Int) * z ∧ (j : Int) * z ≤ 2560 := fun j hj => ⟨Int.mul_nonneg (by omega) (by omega), by
        have h1 : (j : Int) * z ≤ (j : Int) * 64 := Int.mul_le_mul_of_nonneg_left z2 (by omega)
        omega⟩
      obtain ⟨m1, m2⟩ := hmul k (by omega)
      have e1 : IntKind.i64.wrap ((k : Int) * z) = (k : Int) * z := by rw [IntKind.wrap_i64]; omega
      obtain ⟨b, hb⟩ : ∃ b, b = first + (k : Int) * z := ⟨_, rfl⟩
      have e2 : IntKind.i64.wrap (first + (k : Int) * z) = b := by rw [hb, IntKind.wrap_i64]; omega
      by_cases hY : k < Y
      · obtain ⟨o1, o2, o3⟩ := HO.out.early (by omega) hY
        have hY1 : decide ((Y : Int) ≤ (k : Int)) = false := by simp; omega
        rw [← hb] at o1 o2 o3
        have O1 := Lib.hid o1
        have O2 := Lib.hid o2
        have O3 := Lib.hid o3
        clear o1 o2 o3 HO m1 m2
        clear hb
        go_wp2_with fail
        refine (Victim_calls b (-1) (HT.out.same (Chg.below (by repeat (first | with_reducible exact Chg.refl _ _ | with_reducible exact chg0 | with_reducible refine Chg.drewN ?_ _ | with_reducible refine Chg.drew ?_ | with_reducible refine Chg.alloc ?_ _ | with_reducible refine Chg.setCell ?_ _ _ (by first | (simp; done) | omega | (simp; omega)) | with_reducible refine Chg.setBlock ?_ _ _ (by first | (simp; done) | omega | (simp; omega)) | exact Chg.refl _ _)))).here).mono ?_
        rintro e w4 ⟨rfl, n4, rfl⟩
        rw [O1.out]
        go_wp2_with fail
        refine (Add_calls b (HT.out.same (Chg.below (by repeat (first | with_reducible exact Chg.refl _ _ | with_reducible exact chg0 | with_reducible refine Chg.drewN ?_ _ | with_reducible refine Chg.drew ?_ | with_reducible refine Chg.alloc ?_ _ | with_reducible refine Chg.setCell ?_ _ _ (by first | (simp; done) | omega | (simp; omega)) | with_reducible refine Chg.setBlock ?_ _ _ (by first | (simp; done) | omega | (simp; omega)) | exact Chg.refl _ _)))).here).mono ?_
        rintro e w5 ⟨rfl, F5, hh5, mm5⟩
        rw [O2.out]
        replace HT := Lib.hid ((HT.out.same (Chg.below (by repeat (first | with_reducible exact Chg.refl _ _ | with_reducible exact chg0 | with_reducible refine Chg.drewN ?_ _ | with_reducible refine Chg.drew ?_ | with_reducible refine Chg.alloc ?_ _ | with_reducible refine Chg.setCell ?_ _ _ (by first | (simp; done) | omega | (simp; omega)) | with_reducible refine Chg.setBlock ?_ _ _ (by first | (simp; done) | omega | (simp; omega)) | exact Chg.refl _ _)))).moves hh5 mm5)
        go_wp2_with fail
        go_roundg (m - (k + 1))
        case rel => exact ⟨_, k + 1, _, F5, rfl, by omega, rfl, by go_num, HT.out, O3.out⟩
        case measure => omega
      · obtain ⟨o1, o2, o3, o4, o5⟩ := HO.out.late (by omega) (show Y ≤ k by omega)
        have hY1 : decide ((Y : Int) ≤ (k : Int)) = true := by simp; omega
        obtain ⟨n1, n2⟩ := hmul (k - Y) (by omega)
        rw [show ((k - Y : Nat) : Int) = (k : Int) - (Y : Int) by omega] at n1 n2
        have e3 : IntKind.i64.wrap ((k : Int) - (Y : Int)) = (k : Int) - (Y : Int) := by rw [IntKind.wrap_i64]; omega
        have e4 : IntKind.i64.wrap (((k : Int) - (Y : Int)) * z) = ((k : Int) - (Y : Int)) * z := by rw [IntKind.wrap_i64]; omega
        obtain ⟨c, hc⟩ : ∃ c, c = first + ((k : Int) - (Y : Int)) * z := ⟨_, rfl⟩
        have e5 : IntKind.i64.wrap (first + ((k : Int) - (Y : Int)) * z) = c := by rw [hc, IntKind.wrap_i64]; omega
        rw [← hb, ← hc] at o1 o4 o5
        rw [← hc] at o2 o3
        have O1 := Lib.hid o1
        have O3 := Lib.hid o3
        have O4 := Lib.hid o4
        have O5 := Lib.hid o5
        clear o1 o3 o4 o5 HO m1 m2 n1 n2
        clear hb hc
        have c1 : (c != -1) = true := by simp; omega
        have c2 : (c != c) = false := by simp
        go_wp2_with fail
        refine (Victim_calls b (-1) (HT.out.same (Chg.below (by repeat (first | with_reducible exact Chg.refl _ _ | with_reducible exact chg0 | with_reducible refine Chg.drewN ?_ _ | with_reducible refine Chg.drew ?_ | with_reducible refine Chg.alloc ?_ _ | with_reducible refine Chg.setCell ?_ _ _ (by first | (simp; done) | omega | (simp; omega)) | with_reducible refine Chg.setBlock ?_ _ _ (by first | (simp; done) | omega | (simp; omega)) | exact Chg.refl _ _)))).here).mono ?_
        rintro e w4 ⟨rfl, n4, rfl⟩
        rw [O1.out]
        go_wp2_with fail
        refine (Remove_calls c (HT.out.same (Chg.below (by repeat (first | with_reducible exact Chg.refl _ _ | with_reducible exact chg0 | with_reducible refine Chg.drewN ?_ _ | with_reducible refine Chg.drew ?_ | with_reducible refine Chg.alloc ?_ _ | with_reducible refine Chg.setCell ?_ _ _ (by first | (simp; done) | omega | (simp; omega)) | with_reducible refine Chg.setBlock ?_ _ _ (by first | (simp; done) | omega | (simp; omega)) | exact Chg.refl _ _)))).here).mono ?_
        rintro e w5 ⟨rfl, F5, hh5, mm5⟩
        rw [O3.out]
        replace HT := Lib.hid ((HT.out.same (Chg.below (by repeat (first | with_reducible exact Chg.refl _ _ | with_reducible exact chg0 | with_reducible refine Chg.drewN ?_ _ | with_reducible refine Chg.drew ?_ | with_reducible refine Chg.alloc ?_ _ | with_reducible refine Chg.setCell ?_ _ _ (by first | (simp; done) | omega | (simp; omega)) | with_reducible refine Chg.setBlock ?_ _ _ (by first | (simp; done) | omega | (simp; omega)) | exact Chg.refl _ _)))).moves hh5 mm5)
        go_wp2_with fail
        refine (Add_calls b (HT.out.same (Chg.below (by repeat (first | with_reducible exact Chg.refl _ _ | with_reducible exact chg0 | with_reducible refine Chg.drewN ?_ _ | with_reducible refine Chg.drew ?_ | with_reducible refine Chg.alloc ?_ _ | with_reducible refine Chg.setCell ?_ _ _ (by first | (simp; done) | omega | (simp; omega)) | with_reducible refine Chg.setBlock ?_ _ _ (by first | (simp; done) | omega | (simp; omega)) | exact Chg.refl _ _)))).here).mono ?_
        rintro e w6 ⟨rfl, F6, hh6, mm6⟩
        rw [O4.out]
        replace HT := Lib.hid ((HT.out.same (Chg.below (by repeat (first | with_reducible exact Chg.refl _ _ | with_reducible exact chg0 | with_reducible refine Chg.drewN ?_ _ | with_reducible refine Chg.drew ?_ | with_reducible refine Chg.alloc ?_ _ | with_reducible refine Chg.setCell ?_ _ _ (by first | (simp; done) | omega | (simp; omega)) | with_reducible refine Chg.setBlock ?_ _ _ (by first | (simp; done) | omega | (simp; omega)) | exact Chg.refl _ _)))).moves hh6 mm6)
        go_wp2_with fail
        go_roundg (m - (k + 1))
        case rel => exact ⟨_, k + 1, _, F6, rfl, by omega, rfl, by go_num, HT.out, O5.out⟩
        case measure => omega
    · have hkm : k = m := by omega
      have hlen : ((s.list.length : Nat) : Int) = min (m : Int) (Y : Int) := by rw [list_len, HO.out.len]; omega
      have Hlen := Lib.hid hlen
      clear hlen
      go_wp2_with fail
      refine (List_calls (HT.out.same (Chg.below (by repeat (first | with_reducible exact Chg.refl _ _ | with_reducible exact chg0 | with_reducible refine Chg.drewN ?_ _ | with_reducible refine Chg.drew ?_ | with_reducible refine Chg.alloc ?_ _ | with_reducible refine Chg.setCell ?_ _ _ (by first | (simp; done) | omega | (simp; omega)) | with_reducible refine Chg.setBlock ?_ _ _ (by first | (simp; done) | omega | (simp; omega)) | exact Chg.refl _ _)))).here).mono ?_
      rintro e w4 ⟨u4, rfl, hu4, _, hb4⟩
      obtain ⟨A4, cap4, e4⟩ := hu4.form
      rw [ints_length] at e4
      subst e4
      replace HT := Lib.hid ((HT.out.same (Chg.below (by repeat (first | with_reducible exact Chg.refl _ _ | with_reducible exact chg0 | with_reducible refine Chg.drewN ?_ _ | with_reducible refine Chg.drew ?_ | with_reducible refine Chg.alloc ?_ _ | with_reducible refine Chg.setCell ?_ _ _ (by first | (simp; done) | omega | (simp; omega)) | with_reducible refine Chg.setBlock ?_ _ _ (by first | (simp; done) | omega | (simp; omega)) | exact Chg.refl _ _)))).same hb4)
      go_wp2_with fail
      go_ret
      refine ⟨?_, below_trans B1.out HT.out.below⟩
      rw [Hlen.out]
      simp
set_option maxRecDepth 100000 in
theorem linesOrder_lifted (os : Os) (started : os.Started) (H : Type) (enc : TypeId × Value → H) :
    ReturnsInHanded {} Try.checked os 3 .any (Rows.linesOrderSpec.pre6 enc Try.prog Try.f3 Rows.linesOrderRow.domain false) (Rows.linesOrderSpec.post enc Try.prog Try.f3 false true false false) := by
  refine returnsInHanded_of_change (C := Try.checked) law_own started (by kernel_rfl) Try.func3
    (ChangeSpec.witness6 (enc := enc) (C := Try.checked) false ⟨#[], #[.agg #[.int .i64 0, .int .i64 0], .int .i64 0, .int .i64 0], []⟩ 8 (by kernel_rfl) (by kernel_rfl) (by kernel_rfl) (by kernel_rfl)) ?_
  intro W base args ds gs before hval0 hW hcnd _
  have hval : ∀ (j : Nat) t v, Try.f3.params[j]? = some t → args[j]? = some v → Value.okWide Try.prog W .any base t v := hval0
  have hW' := hW
  obtain ⟨p, q, hA0, hV, rfl, hfz, hnd⟩ := hW
  have hA : DataW.TrodAll enc Try.prog W 0 (fun _ => true) true Try.f3.params.toList args.toList ds p := hA0
  rw [Try.params3] at hA hval
  obtain ⟨v0, vs0, d0, ds0, p0, q0, hargs, rfl, rfl, h0, r0⟩ := trodAll_cons hA
  obtain ⟨v1, vs1, d1, ds1, p1, q1, rfl, rfl, rfl, h1, r1⟩ := trodAll_cons r0
  obtain ⟨v2, vs2, d2, ds2, p2, q2, rfl, rfl, rfl, h2, r2⟩ := trodAll_cons r1
  obtain ⟨rfl, rfl, rfl⟩ := trodAll_nil r2
  obtain rfl : args = #[v0, v1, v2] := by cases args; simp_all
  obtain ⟨rfl, rfl⟩ := trodVars_none hV
  have k0 := h0
  have lt0 : ∀ x ∈ p0, x.block < W.heap.size := by obtain ⟨m, hm⟩ := k0; exact DataW.trod_lt m _ _ _ hm
  obtain ⟨f0, g0⟩ := h0
  obtain ⟨cs0, rfl, _⟩ := okWide_array Try.underlying22 (hval 0 22 v0 rfl rfl)
  obtain ⟨x0, e0, o0⟩ := Pair.of_trod g0
  obtain rfl : cs0 = x0.cells.toArray := by simp only [Value.cells] at e0; rw [← e0]
  have k1 := h1
  have lt1 : ∀ x ∈ p1, x.block < W.heap.size := by obtain ⟨m, hm⟩ := k1; exact DataW.trod_lt m _ _ _ hm
  obtain ⟨f1, g1⟩ := h1
  obtain ⟨x1, e1, o1⟩ := int_of_trod g1
  obtain rfl := one_value (hval 1 3 v1 rfl rfl) Try.underlying3 e1
  have k2 := h2
  have lt2 : ∀ x ∈ p2, x.block < W.heap.size := by obtain ⟨m, hm⟩ := k2; exact DataW.trod_lt m _ _ _ hm
  obtain ⟨f2, g2⟩ := h2
  obtain ⟨x2, e2, o2⟩ := int_of_trod g2
  obtain rfl := one_value (hval 2 3 v2 rfl rfl) Try.underlying3 e2
  clear hA0 hval0
  refine (linesOrder_walk x0 o0 x1 o1 x2 o2 W).mono fun e W' ⟨he, bel⟩ => ?_
  subst he
  exact ⟨_, rfl, _, _, _, [], _, [], hW', trodAll_mk1 (shut_bool Try.underlying4 _), (trodAll_cons_mk (Below.trod law_laidOut (by kernel_rfl) (of_decide_eq_true (by kernel_rfl)) k0 bel lt0) (trodAll_cons_mk (Below.trod law_laidOut (by kernel_rfl) (of_decide_eq_true (by kernel_rfl)) k1 bel lt1) (trodAll_cons_mk (Below.trod law_laidOut (by kernel_rfl) (of_decide_eq_true (by kernel_rfl)) k2 bel lt2) trodAll_mk0))), rfl, bel.frame _, fun h => by cases h⟩

theorem linesOrder_holds : Rows.LinesOrderSaid :=
  OpenClaim.holds_of_wide 3 Try.f3 rfl rfl rfl rfl rfl rfl rfl ⟨rfl, rfl, rfl, rfl, rfl⟩ rfl rfl rfl rfl rfl (by kernel_rfl) Try.func3 (by kernel_rfl)
    (of_decide_eq_true (by kernel_rfl)) (by unfold Func.isWrapper; first | (rw [if_pos (by decide +kernel)]; kernel_rfl) | (rw [if_neg (by decide +kernel)]; exact ⟨rfl, rfl⟩))
    (fun os started H enc _ => linesOrder_lifted os started H enc)
end Go.Proofs.Ytocnhmakgbdbfaa
