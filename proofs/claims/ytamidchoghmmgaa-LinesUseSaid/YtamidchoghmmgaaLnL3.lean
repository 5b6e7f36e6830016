/-
  LinesUse: a line that was just used doesn't go for another one's. No condition.
-/
import Derived.Test.YtamidchoghmmgaaLnL
import Derived.Test.YtamidchoghmmgaaLnP
import Derived.Deep.LoopGhost
import Derived.Deep.CutBlock
namespace Go.Proofs.Ytamidchoghmmgaa
open Go.RowKit Go.Sort Go.ChangeShapes Go.WideShapes Go.ChangeAt
open Go.ChangeMaps (setBlock)
set_option linter.unusedVariables false
set_option linter.unusedSimpArgs false

set_option maxHeartbeats 4000000 in
set_option maxRecDepth 20000 in
theorem linesUse_walk (sizes : Pair) (hs : sizes.ok) (l : List Act08) (v : Value) (w : World) (hsl : SliceIs w 2 v (l.map Act08.cells)) (hok : ∀ d ∈ l, d.ok) (ask : Pair) (ha : ask.ok) :
    Calls Try.prog 5 #[sizes.val, v, ask.val] w fun e w' => e = .returned (.bool true) ∧ Below w.heap.size w w' := by
  obtain ⟨A, cap, rfl, h1, h2, h3⟩ := hsl
  simp only [List.length_map] at h1 h2 h3 ⊢
  have H3 := Lib.hid h3
  clear h3 hok ha hs
  obtain ⟨s0, s1⟩ := sizes
  obtain ⟨a0, a1⟩ := ask
  simp only [Pair.val, Pair.cells]
  go_enter Try.func5, Try.ntmps5
  go_wp2_with fail
  refine (lnAwake_calls _).mono ?_
  rintro e w1 ⟨rfl, hb1'⟩
  have hb1 : Below w.heap.size w w1 := below_trans (Chg.below (by repeat (first | with_reducible exact Chg.refl _ _ | with_reducible exact chg0 | with_reducible refine Chg.drewN ?_ _ | with_reducible refine Chg.drew ?_ | with_reducible refine Chg.alloc ?_ _ | with_reducible refine Chg.setCell ?_ _ _ (by first | (simp; done) | omega | (simp; omega)) | with_reducible refine Chg.setBlock ?_ _ _ (by first | (simp; done) | omega | (simp; omega)) | exact Chg.refl _ _))) hb1'
  have sz1 := hb1'.size
  simp [go_sem] at sz1
  have ask0 : w1.cell? ⟨w.heap.size + 1, 0, none⟩ = some (.int .i64 a0) := by rw [hb1'.cell (by simp <;> omega)]; simp [go_sem]
  have ask1 : w1.cell? ⟨w.heap.size + 1, 1, none⟩ = some (.int .i64 a1) := by rw [hb1'.cell (by simp <;> omega)]; simp [go_sem]
  have siz0 : w1.cell? ⟨w.heap.size, 0, none⟩ = some (.int .i64 s0) := by rw [hb1'.cell (by simp <;> omega)]; simp [go_sem]
  have siz1 : w1.cell? ⟨w.heap.size, 1, none⟩ = some (.int .i64 s1) := by rw [hb1'.cell (by simp <;> omega)]; simp [go_sem]
  clear hb1'
  by_cases h200 : (200 : Int) < (l.length : Int)
  · have h200' : decide ((200 : Int) < (l.length : Int)) = true := by simpa using h200
    go_wp2_with fail
    refine (lnAwake_calls _).mono ?_
    rintro e w2 ⟨rfl, hb2⟩
    go_wp2_with fail
    go_ret
    exact ⟨rfl, below_trans hb1 hb2⟩
  have h200' : decide ((200 : Int) < (l.length : Int)) = false := by simpa using h200
  go_wp2_with fail
  have AA := Lib.hid (And.intro ask0 ask1)
  have B1 := Lib.hid hb1
  refine (LinesNew_calls s0 s1 _).mono ?_
  rintro e w2 ⟨p, F1, rfl, hp, hF1, hb2⟩
  have T1 : At0 w1 w2 p (Lines.new s0 s1) F1 := ⟨hp, hF1, below_trans (Chg.below (by repeat (first | with_reducible exact Chg.refl _ _ | with_reducible exact chg0 | with_reducible refine Chg.drewN ?_ _ | with_reducible refine Chg.drew ?_ | with_reducible refine Chg.alloc ?_ _ | with_reducible refine Chg.setCell ?_ _ _ (by first | (simp; done) | omega | (simp; omega)) | with_reducible refine Chg.setBlock ?_ _ _ (by first | (simp; done) | omega | (simp; omega)) | exact Chg.refl _ _))) hb2⟩
  have HT1 := Lib.hid T1
  clear T1 hp hF1 hb2 ask0 ask1 siz0 siz1 hb1
  go_wp2_with fail
  go_loopg [33] l.length (fun g i wx => ∃ (wr : World) (k : Nat) (s : Lines) (F : Nat → Prop), wx = wr ∧ k ≤ l.length ∧ g = l.length - k ∧ i = .int .i64 k ∧ At0 w1 wr p s F)
  case atStart => exact ⟨_, 0, _, F1, rfl, Nat.zero_le _, rfl, rfl, HT1.out⟩
  case round =>
    obtain ⟨wr, k, s, F, rfl, hk, rfl, rfl, hT⟩ := hrel
    have HT := Lib.hid hT
    have sr := hT.below.size
    have HF0 := Lib.hid (fun j (hj : F j) => hT.here.lt hj)
    clear hT HT1
    by_cases hlt : k < l.length
    · obtain ⟨q, off, rfl, hrows⟩ := H3.out (by omega)
      have hrow := act08At hrows (below_trans B1.out HT.out.below) hlt
      obtain ⟨⟨kd, b⟩, hd⟩ : ∃ d, d = l[k] := ⟨_, rfl⟩
      rw [← hd] at hrow
      obtain ⟨c0, c1⟩ := Act08.range hrow
      clear hd hrow hrows
      go_wp2_with fail
      refine (Add_calls b (HT.out.same (Chg.below (by repeat (first | with_reducible exact Chg.refl _ _ | with_reducible exact chg0 | with_reducible refine Chg.drewN ?_ _ | with_reducible refine Chg.drew ?_ | with_reducible refine Chg.alloc ?_ _ | with_reducible refine Chg.setCell ?_ _ _ (by first | (simp; done) | omega | (simp; omega)) | with_reducible refine Chg.setBlock ?_ _ _ (by first | (simp; done) | omega | (simp; omega)) | exact Chg.refl _ _)))).here).mono ?_
      rintro e w3 ⟨rfl, F3, hh3, mm3⟩
      have k3 := mm3.chg.cell (a := ⟨wr.heap.size, 0, none⟩) (v := .int .i64 kd) (by simp [go_sem]) (fun hf => absurd (HF0.out _ hf) (Nat.lt_irrefl _))
      have b3 := mm3.chg.cell (a := ⟨wr.heap.size, 1, none⟩) (v := .int .i64 b) (by simp [go_sem]) (fun hf => absurd (HF0.out _ hf) (Nat.lt_irrefl _))
      replace HT := Lib.hid ((HT.out.same (Chg.below (by repeat (first | with_reducible exact Chg.refl _ _ | with_reducible exact chg0 | with_reducible refine Chg.drewN ?_ _ | with_reducible refine Chg.drew ?_ | with_reducible refine Chg.alloc ?_ _ | with_reducible refine Chg.setCell ?_ _ _ (by first | (simp; done) | omega | (simp; omega)) | with_reducible refine Chg.setBlock ?_ _ _ (by first | (simp; done) | omega | (simp; omega)) | exact Chg.refl _ _)))).moves hh3 mm3)
      clear hh3 mm3 c0 c1
      generalize s.can b = r1
      go_wp2_with fail
      go_roundg (l.length - (k + 1))
      case rel => exact ⟨_, k + 1, _, F3, rfl, by omega, rfl, by go_num, HT.out⟩
      case measure => omega
    · have ask0 : wr.cell? ⟨w.heap.size + 1, 0, none⟩ = some (.int .i64 a0) := by rw [HT.out.below.cell (by simp; omega)]; exact AA.out.1
      have ask1 : wr.cell? ⟨w.heap.size + 1, 1, none⟩ = some (.int .i64 a1) := by rw [HT.out.below.cell (by simp; omega)]; exact AA.out.2
      obtain ⟨x1, e1⟩ : ∃ x, x = (s.victim a0 (-1)).1 := ⟨_, rfl⟩
      have E1 := Lib.hid e1
      clear e1
      go_wp2_with fail
      refine (Victim_calls a0 (-1) (HT.out.same (Chg.below (by repeat (first | with_reducible exact Chg.refl _ _ | with_reducible exact chg0 | with_reducible refine Chg.drewN ?_ _ | with_reducible refine Chg.drew ?_ | with_reducible refine Chg.alloc ?_ _ | with_reducible refine Chg.setCell ?_ _ _ (by first | (simp; done) | omega | (simp; omega)) | with_reducible refine Chg.setBlock ?_ _ _ (by first | (simp; done) | omega | (simp; omega)) | exact Chg.refl _ _)))).here).mono ?_
      rintro e w3 ⟨rfl, n3, rfl⟩
      rw [← E1.out]
      cases hh : s.has a1 with
      | false =>
        go_wp2_with fail
        refine (Use_calls a1 (HT.out.same (Chg.below (by repeat (first | with_reducible exact Chg.refl _ _ | with_reducible exact chg0 | with_reducible refine Chg.drewN ?_ _ | with_reducible refine Chg.drew ?_ | with_reducible refine Chg.alloc ?_ _ | with_reducible refine Chg.setCell ?_ _ _ (by first | (simp; done) | omega | (simp; omega)) | with_reducible refine Chg.setBlock ?_ _ _ (by first | (simp; done) | omega | (simp; omega)) | exact Chg.refl _ _)))).here).mono ?_
        rintro e w5 ⟨rfl, F5, hh5, mm5⟩
        rw [hh]
        have hu : s.use a1 = s := by rw [Lines.use, hh]; rfl
        rw [hu] at hh5
        have HT5 := Lib.hid ((HT.out.same (Chg.below (by repeat (first | with_reducible exact Chg.refl _ _ | with_reducible exact chg0 | with_reducible refine Chg.drewN ?_ _ | with_reducible refine Chg.drew ?_ | with_reducible refine Chg.alloc ?_ _ | with_reducible refine Chg.setCell ?_ _ _ (by first | (simp; done) | omega | (simp; omega)) | with_reducible refine Chg.setBlock ?_ _ _ (by first | (simp; done) | omega | (simp; omega)) | exact Chg.refl _ _)))).moves hh5 mm5)
        have k1 : w5.cell? ⟨w.heap.size + 1, 1, none⟩ = some (.int .i64 a1) := by rw [HT5.out.below.cell (by simp; omega)]; exact AA.out.2
        clear hh5 mm5 hu
        go_wp2_with fail
        refine (Has_calls a1 (HT5.out.same (Chg.below (by repeat (first | with_reducible exact Chg.refl _ _ | with_reducible exact chg0 | with_reducible refine Chg.drewN ?_ _ | with_reducible refine Chg.drew ?_ | with_reducible refine Chg.alloc ?_ _ | with_reducible refine Chg.setCell ?_ _ _ (by first | (simp; done) | omega | (simp; omega)) | with_reducible refine Chg.setBlock ?_ _ _ (by first | (simp; done) | omega | (simp; omega)) | exact Chg.refl _ _)))).here).mono ?_
        rintro e w6 ⟨rfl, n6, rfl⟩
        rw [hh]
        go_wp2_with fail
        go_ret
        exact ⟨rfl, below_trans B1.out (HT5.out.same (Chg.below (by repeat (first | with_reducible exact Chg.refl _ _ | with_reducible exact chg0 | with_reducible refine Chg.drewN ?_ _ | with_reducible refine Chg.drew ?_ | with_reducible refine Chg.alloc ?_ _ | with_reducible refine Chg.setCell ?_ _ _ (by first | (simp; done) | omega | (simp; omega)) | with_reducible refine Chg.setBlock ?_ _ _ (by first | (simp; done) | omega | (simp; omega)) | exact Chg.refl _ _)))).below⟩
      | true =>
        have hfacts := use_facts HT.out.here.ok a0 a1 hh
        obtain ⟨x2, e2⟩ : ∃ x, x = ((s.use a1).victim a0 (-1)).1 := ⟨_, rfl⟩
        obtain ⟨x3, e3⟩ : ∃ x, x = ((s.use a1).victim a0 (-1)).2 := ⟨_, rfl⟩
        obtain ⟨x4, e4⟩ : ∃ x, x = ((s.use a1).victim a0 a1).1 := ⟨_, rfl⟩
        obtain ⟨x5, e5⟩ : ∃ x, x = ((s.use a1).victim a0 a1).2 := ⟨_, rfl⟩
        rw [← E1.out, ← e2, ← e3, ← e4, ← e5] at hfacts
        have HH := Lib.hid hfacts
        have E2 := Lib.hid e2
        have E3 := Lib.hid e3
        have E4 := Lib.hid e4
        have E5 := Lib.hid e5
        clear hfacts e2 e3 e4 e5
        go_wp2_with fail
        refine (Use_calls a1 (HT.out.same (Chg.below (by repeat (first | with_reducible exact Chg.refl _ _ | with_reducible exact chg0 | with_reducible refine Chg.drewN ?_ _ | with_reducible refine Chg.drew ?_ | with_reducible refine Chg.alloc ?_ _ | with_reducible refine Chg.setCell ?_ _ _ (by first | (simp; done) | omega | (simp; omega)) | with_reducible refine Chg.setBlock ?_ _ _ (by first | (simp; done) | omega | (simp; omega)) | exact Chg.refl _ _)))).here).mono ?_
        rintro e w5 ⟨rfl, F5, hh5, mm5⟩
        rw [hh]
        have HT5 := Lib.hid ((HT.out.same (Chg.below (by repeat (first | with_reducible exact Chg.refl _ _ | with_reducible exact chg0 | with_reducible refine Chg.drewN ?_ _ | with_reducible refine Chg.drew ?_ | with_reducible refine Chg.alloc ?_ _ | with_reducible refine Chg.setCell ?_ _ _ (by first | (simp; done) | omega | (simp; omega)) | with_reducible refine Chg.setBlock ?_ _ _ (by first | (simp; done) | omega | (simp; omega)) | exact Chg.refl _ _)))).moves hh5 mm5)
        have k0 : w5.cell? ⟨w.heap.size + 1, 0, none⟩ = some (.int .i64 a0) := by rw [HT5.out.below.cell (by simp; omega)]; exact AA.out.1
        have k1 : w5.cell? ⟨w.heap.size + 1, 1, none⟩ = some (.int .i64 a1) := by rw [HT5.out.below.cell (by simp; omega)]; exact AA.out.2
        clear hh5 mm5 ask0 ask1 hh
        go_wp2_with fail
        refine (Victim_calls a0 (-1) (HT5.out.same (Chg.below (by repeat (first | with_reducible exact Chg.refl _ _ | with_reducible exact chg0 | with_reducible refine Chg.drewN ?_ _ | with_reducible refine Chg.drew ?_ | with_reducible refine Chg.alloc ?_ _ | with_reducible refine Chg.setCell ?_ _ _ (by first | (simp; done) | omega | (simp; omega)) | with_reducible refine Chg.setBlock ?_ _ _ (by first | (simp; done) | omega | (simp; omega)) | exact Chg.refl _ _)))).here).mono ?_
        rintro e w6 ⟨rfl, n6, rfl⟩
        rw [← E2.out, ← E3.out]
        by_cases q1 : x1 = a1
        · have q1' : (x1 != a1) = false := by simpa using q1
          obtain ⟨f1, f2, f3⟩ := HH.out.2 q1
          subst f1
          have F2 := Lib.hid f2
          have F3 := Lib.hid f3
          clear f2 f3
          go_wp2_with fail
          refine (Victim_calls a0 a1 (HT5.out.same (Chg.below (by repeat (first | with_reducible exact Chg.refl _ _ | with_reducible exact chg0 | with_reducible refine Chg.drewN ?_ _ | with_reducible refine Chg.drew ?_ | with_reducible refine Chg.alloc ?_ _ | with_reducible refine Chg.setCell ?_ _ _ (by first | (simp; done) | omega | (simp; omega)) | with_reducible refine Chg.setBlock ?_ _ _ (by first | (simp; done) | omega | (simp; omega)) | exact Chg.refl _ _)))).here).mono ?_
          rintro e w7 ⟨rfl, n7, rfl⟩
          rw [← E4.out, ← E5.out]
          cases x5
          · have hx := F3.out rfl
            go_wp2_with fail
            go_ret
            exact ⟨by simp [hx], below_trans B1.out (HT5.out.same (Chg.below (by repeat (first | with_reducible exact Chg.refl _ _ | with_reducible exact chg0 | with_reducible refine Chg.drewN ?_ _ | with_reducible refine Chg.drew ?_ | with_reducible refine Chg.alloc ?_ _ | with_reducible refine Chg.setCell ?_ _ _ (by first | (simp; done) | omega | (simp; omega)) | with_reducible refine Chg.setBlock ?_ _ _ (by first | (simp; done) | omega | (simp; omega)) | exact Chg.refl _ _)))).below⟩
          · have hx := F2.out rfl
            go_wp2_with fail
            go_ret
            exact ⟨by simp [hx], below_trans B1.out (HT5.out.same (Chg.below (by repeat (first | with_reducible exact Chg.refl _ _ | with_reducible exact chg0 | with_reducible refine Chg.drewN ?_ _ | with_reducible refine Chg.drew ?_ | with_reducible refine Chg.alloc ?_ _ | with_reducible refine Chg.setCell ?_ _ _ (by first | (simp; done) | omega | (simp; omega)) | with_reducible refine Chg.setBlock ?_ _ _ (by first | (simp; done) | omega | (simp; omega)) | exact Chg.refl _ _)))).below⟩
        · have q1' : (x1 != a1) = true := by simpa using q1
          have hx := HH.out.1 q1
          go_wp2_with fail
          go_ret
          exact ⟨by simp [hx], below_trans B1.out (HT5.out.same (Chg.below (by repeat (first | with_reducible exact Chg.refl _ _ | with_reducible exact chg0 | with_reducible refine Chg.drewN ?_ _ | with_reducible refine Chg.drew ?_ | with_reducible refine Chg.alloc ?_ _ | with_reducible refine Chg.setCell ?_ _ _ (by first | (simp; done) | omega | (simp; omega)) | with_reducible refine Chg.setBlock ?_ _ _ (by first | (simp; done) | omega | (simp; omega)) | exact Chg.refl _ _)))).below⟩

set_option maxRecDepth 100000 in
theorem linesUse_lifted (os : Os) (started : os.Started) (H : Type) (enc : TypeId × Value → H) :
    ReturnsInHanded {} Try.checked os 5 .any (Rows.linesUseSpec.pre6 enc Try.prog Try.f5 Rows.linesUseRow.domain false) (Rows.linesUseSpec.post enc Try.prog Try.f5 false true false false) := by
  refine returnsInHanded_of_change (C := Try.checked) law_own started (by kernel_rfl) Try.func5
    (ChangeSpec.witness6 (enc := enc) (C := Try.checked) false ⟨#[], #[.agg #[.int .i64 0, .int .i64 0], .slice none 0 0, .agg #[.int .i64 0, .int .i64 0]], []⟩ 8 (by kernel_rfl) (by kernel_rfl) (by kernel_rfl) (by kernel_rfl)) ?_
  intro W base args ds gs before hval0 hW hcnd _
  have hval : ∀ (j : Nat) t v, Try.f5.params[j]? = some t → args[j]? = some v → Value.okWide Try.prog W .any base t v := hval0
  have hW' := hW
  obtain ⟨p, q, hA0, hV, rfl, hfz, hnd⟩ := hW
  have hA : DataW.TrodAll enc Try.prog W 0 (fun _ => true) true Try.f5.params.toList args.toList ds p := hA0
  rw [Try.params5] at hA hval
  obtain ⟨v0, vs0, d0, ds0, p0, q0, hargs, rfl, rfl, h0, r0⟩ := trodAll_cons hA
  obtain ⟨v1, vs1, d1, ds1, p1, q1, rfl, rfl, rfl, h1, r1⟩ := trodAll_cons r0
  obtain ⟨v2, vs2, d2, ds2, p2, q2, rfl, rfl, rfl, h2, r2⟩ := trodAll_cons r1
  obtain ⟨rfl, rfl, rfl⟩ := trodAll_nil r2
  obtain rfl : args = #[v0, v1, v2] := by cases args; simp_all
  obtain ⟨rfl, rfl⟩ := trodVars_none hV
  have k0 := h0
  have lt0 : ∀ x ∈ p0, x.block < W.heap.size := by obtain ⟨m, hm⟩ := k0; exact DataW.trod_lt m _ _ _ hm
  obtain ⟨f0, g0⟩ := h0
  obtain ⟨cs0, rfl, _⟩ := okWide_array Try.underlying22 (hval 0 22 v0 rfl rfl)
  obtain ⟨x0, e0, o0⟩ := Pair.of_trod g0
  obtain rfl : cs0 = x0.cells.toArray := by simp only [Value.cells] at e0; rw [← e0]
  have k1 := h1
  have lt1 : ∀ x ∈ p1, x.block < W.heap.size := by obtain ⟨m, hm⟩ := k1; exact DataW.trod_lt m _ _ _ hm
  obtain ⟨f1, g1⟩ := h1
  obtain ⟨l1, s1, o1⟩ := slice_of_trod (sz := 2) (cells := Act08.cells) (ok := Act08.ok) Try.underlying23 (by kernel_rfl) (by decide) (fun _ => rfl) Act08.of_trod g1 (okWide_slice Try.underlying23 (hval 1 23 v1 rfl rfl))
  have k2 := h2
  have lt2 : ∀ x ∈ p2, x.block < W.heap.size := by obtain ⟨m, hm⟩ := k2; exact DataW.trod_lt m _ _ _ hm
  obtain ⟨f2, g2⟩ := h2
  obtain ⟨cs2, rfl, _⟩ := okWide_array Try.underlying22 (hval 2 22 v2 rfl rfl)
  obtain ⟨x2, e2, o2⟩ := Pair.of_trod g2
  obtain rfl : cs2 = x2.cells.toArray := by simp only [Value.cells] at e2; rw [← e2]
  clear hA0 hval0
  refine (linesUse_walk x0 o0 l1 v1 W s1 o1 x2 o2).mono fun e W' ⟨he, bel⟩ => ?_
  subst he
  exact ⟨_, rfl, _, _, _, [], _, [], hW', trodAll_mk1 (shut_bool Try.underlying4 _), (trodAll_cons_mk (Below.trod law_laidOut (by kernel_rfl) (of_decide_eq_true (by kernel_rfl)) k0 bel lt0) (trodAll_cons_mk (Below.trod law_laidOut (by kernel_rfl) (of_decide_eq_true (by kernel_rfl)) k1 bel lt1) (trodAll_cons_mk (Below.trod law_laidOut (by kernel_rfl) (of_decide_eq_true (by kernel_rfl)) k2 bel lt2) trodAll_mk0))), rfl, bel.frame _, fun h => by cases h⟩

theorem linesUse_holds : Rows.LinesUseSaid :=
  OpenClaim.holds_of_wide 5 Try.f5 rfl rfl rfl rfl rfl rfl rfl ⟨rfl, rfl, rfl, rfl, rfl⟩ rfl rfl rfl rfl rfl (by kernel_rfl) Try.func5 (by kernel_rfl)
    (of_decide_eq_true (by kernel_rfl)) (by unfold Func.isWrapper; first | (rw [if_pos (by decide +kernel)]; kernel_rfl) | (rw [if_neg (by decide +kernel)]; exact ⟨rfl, rfl⟩))
    (fun os started H enc _ => linesUse_lifted os started H enc)
end Go.Proofs.Ytamidchoghmmgaa
