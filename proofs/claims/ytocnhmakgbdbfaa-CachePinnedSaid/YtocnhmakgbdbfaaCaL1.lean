/-
  CachePinned: the line of a pinned block never goes in another one's place. No condition.
-/
import Derived.Test.YtocnhmakgbdbfaaCaL0
import Derived.Test.YtocnhmakgbdbfaaCaP
namespace Go.Proofs.Ytocnhmakgbdbfaa
open Go.RowKit Go.Sort Go.ChangeShapes Go.WideShapes Go.ChangeAt
open Go.ChangeMaps (setBlock)
set_option linter.unusedVariables false
set_option linter.unusedSimpArgs false

set_option maxHeartbeats 4000000 in
set_option maxRecDepth 20000 in
theorem cachePinned_walk (sizes : Pair) (hs : sizes.ok) (l : List Act09) (v : Value) (w : World) (hsl : SliceIs w 13 v (l.map Act09.cells)) (hok : ∀ d ∈ l, d.ok) (pinned : Int) (hpn : i64ok pinned) :
    Calls Try.prog 6 #[sizes.val, v, .int .i64 pinned] w fun e w' => e = .returned (.bool true) ∧ Below w.heap.size w w' := by
  have HSL := Lib.hid hsl
  obtain ⟨A, cap, rfl, h1, h2, h3⟩ := hsl
  simp only [List.length_map] at h1 h2 h3 HSL ⊢
  have H3 := Lib.hid h3
  clear h3 hok hpn hs
  have hfc := fieldCount
  obtain ⟨s0, s1⟩ := sizes
  simp only [Pair.val, Pair.cells]
  go_enter Try.func6, Try.ntmps6
  go_wp2_with fail
  refine (caAwake_calls _).mono ?_
  rintro e w1 ⟨rfl, hb1'⟩
  go_wp2_with fail
  refine (right_calls l _ _ (HSL.out.below (below_trans (Chg.below (by repeat (first | with_reducible exact Chg.refl _ _ | with_reducible exact chg0 | with_reducible refine Chg.drewN ?_ _ | with_reducible refine Chg.drew ?_ | with_reducible refine Chg.alloc ?_ _ | with_reducible refine Chg.setCell ?_ _ _ (by first | (simp; done) | omega | (simp; omega)) | with_reducible refine Chg.setBlock ?_ _ _ (by first | (simp; done) | omega | (simp; omega)) | exact Chg.refl _ _))) hb1'))).mono ?_
  rintro e w2 ⟨r, rfl, hr, hb2'⟩
  have hb1 : Below w.heap.size w w2 := below_trans (below_trans (Chg.below (by repeat (first | with_reducible exact Chg.refl _ _ | with_reducible exact chg0 | with_reducible refine Chg.drewN ?_ _ | with_reducible refine Chg.drew ?_ | with_reducible refine Chg.alloc ?_ _ | with_reducible refine Chg.setCell ?_ _ _ (by first | (simp; done) | omega | (simp; omega)) | with_reducible refine Chg.setBlock ?_ _ _ (by first | (simp; done) | omega | (simp; omega)) | exact Chg.refl _ _))) hb1') hb2'
  have sz0 := hb1'.size
  have sz1 := hb2'.size
  simp [go_sem] at sz0 sz1
  have siz0 : w2.cell? ⟨w.heap.size, 0, none⟩ = some (.int .i64 s0) := by rw [hb2'.cell (by simp <;> omega), hb1'.cell (by simp <;> omega)]; simp [go_sem]
  have siz1 : w2.cell? ⟨w.heap.size, 1, none⟩ = some (.int .i64 s1) := by rw [hb2'.cell (by simp <;> omega), hb1'.cell (by simp <;> omega)]; simp [go_sem]
  have HR := Lib.hid hr
  clear hb1' hb2' hr
  cases r
  · go_wp2_with fail
    refine (caAwake_calls _).mono ?_
    rintro e w3 ⟨rfl, hb3⟩
    go_wp2_with fail
    go_ret
    exact ⟨rfl, below_trans hb1 hb3⟩
  by_cases hp : pinned < 0
  · have hp' : decide (pinned < 0) = true := by simpa using hp
    go_wp2_with fail
    refine (caAwake_calls _).mono ?_
    rintro e w3 ⟨rfl, hb3⟩
    go_wp2_with fail
    go_ret
    exact ⟨rfl, below_trans hb1 hb3⟩
  have hp' : decide (pinned < 0) = false := by simpa using hp
  have B1 := Lib.hid hb1
  obtain ⟨hl200, hfit⟩ := HR.out rfl
  have HFIT := Lib.hid hfit
  clear hfit HR hb1
  go_wp2_with fail
  refine (CacheNew_calls s0 s1 _).mono ?_
  rintro e w3 ⟨p, F1, rfl, hp3, hF1, hb3⟩
  have HT1 := Lib.hid (show Ca0 w2 w3 p (CacheM.new s0 s1) F1 from ⟨hp3, hF1, below_trans (Chg.below (by repeat (first | with_reducible exact Chg.refl _ _ | with_reducible exact chg0 | with_reducible refine Chg.drewN ?_ _ | with_reducible refine Chg.drew ?_ | with_reducible refine Chg.alloc ?_ _ | with_reducible refine Chg.setCell ?_ _ _ (by first | (simp; done) | omega | (simp; omega)) | with_reducible refine Chg.setBlock ?_ _ _ (by first | (simp; done) | omega | (simp; omega)) | exact Chg.refl _ _))) hb3⟩)
  clear hp3 hF1 hb3 siz0 siz1
  go_wp2_with fail
  go_loopg [8, 34] l.length (fun g s8 i wx => ∃ (wr : World) (k : Nat) (c : CacheM) (F : Nat → Prop), wx = wr ∧ k ≤ l.length ∧ g = l.length - k ∧ i = .int .i64 k ∧ s8 = .int .i64 (c.tok pinned).count ∧ Ca0 w2 wr p c F ∧ ∀ j, (c.tok j).count ≤ k * 1048576)
  case atStart => exact ⟨_, 0, _, F1, rfl, Nat.zero_le _, rfl, rfl, rfl, HT1.out, fun j => by simp [CacheM.new, Bundle.none]⟩
  case round =>
    obtain ⟨wr, k, c, F, rfl, hk, rfl, rfl, rfl, hT, hbd⟩ := hrel
    clear HT1
    have HT := Lib.hid hT
    have HBD := Lib.hid hbd
    have sr := hT.below.size
    have HF0 := Lib.hid (fun j (hj : F j) => hT.here.lt hj)
    have ok := hT.here.ok
    have OK := Lib.hid ok
    clear hT hbd ok
    by_cases hlt : k < l.length
    · obtain ⟨q, off, rfl, hrows⟩ := H3.out (by omega)
      have hrow := act09At hrows (below_trans B1.out HT.out.below) hlt
      have hmem : l[k] ∈ l := List.getElem_mem hlt
      obtain ⟨d, hd⟩ : ∃ d, d = l[k] := ⟨_, rfl⟩
      rw [← hd] at hrow hmem
      have hfd := HFIT.out d hmem
      have HFD := Lib.hid hfd
      obtain ⟨c0, c1, c2, c3, c4, c5, c6, c7, c8, c9, c10, c11, c12⟩ := Act09.range hrow
      have hcnt : d.tokens.count ≤ 1048576 := hfd.2
      have hcn0 : 0 ≤ d.tokens.count := hfd.1.pos
      have hpos := (OK.out.good pinned).pos
      have hbp := HBD.out pinned
      have hfacts := absorb_pinned OK.out d.block hfd.1 pinned (by omega)
      have hbnd := absorb_bound OK.out d.block hfd.1 pinned
      obtain ⟨a, ha⟩ : ∃ a, a = c.absorb d.block d.tokens pinned := ⟨_, rfl⟩
      rw [← ha] at hfacts
      simp only [← ha] at hbnd
      have HAB := Lib.hid (fun (W : World) (h : CacheAt W p c F) => Absorb_calls (w := W) d.block d.tokens pinned h hfd.1 (by have := HBD.out d.block; omega))
      simp only [← ha] at HAB
      have HFA := Lib.hid hfacts
      have HBN := Lib.hid hbnd
      clear hd hrow hrows hfd hfacts hbnd ha hmem
      simp only [Bundle.val, Bundle.cells, Line.val, Line.cells] at HAB
      go_wp2_with fail
      refine (HAB.out _ (HT.out.same (Chg.below (by repeat (first | with_reducible exact Chg.refl _ _ | with_reducible exact chg0 | with_reducible refine Chg.drewN ?_ _ | with_reducible refine Chg.drew ?_ | with_reducible refine Chg.alloc ?_ _ | with_reducible refine Chg.setCell ?_ _ _ (by first | (simp; done) | omega | (simp; omega)) | with_reducible refine Chg.setBlock ?_ _ _ (by first | (simp; done) | omega | (simp; omega)) | exact Chg.refl _ _)))).here).mono ?_
      rintro e w4 ⟨rfl, F4, h4, m4⟩
      have e1 : w4.cell? ⟨wr.heap.size, 1, none⟩ = some (.int .i64 d.block) := m4.chg.cell (by simp [go_sem]) (fun h => absurd (HF0.out _ h) (Nat.lt_irrefl _))
      have e6 : w4.cell? ⟨wr.heap.size, 6, none⟩ = some (.int .i64 d.tokens.count) := m4.chg.cell (by simp [go_sem]) (fun h => absurd (HF0.out _ h) (Nat.lt_irrefl _))
      have lt4 := World.block_lt_of_cell? w4 _ e1
      replace HT := Lib.hid ((HT.out.same (Chg.below (by repeat (first | with_reducible exact Chg.refl _ _ | with_reducible exact chg0 | with_reducible refine Chg.drewN ?_ _ | with_reducible refine Chg.drew ?_ | with_reducible refine Chg.alloc ?_ _ | with_reducible refine Chg.setCell ?_ _ _ (by first | (simp; done) | omega | (simp; omega)) | with_reducible refine Chg.setBlock ?_ _ _ (by first | (simp; done) | omega | (simp; omega)) | exact Chg.refl _ _)))).moves h4 m4)
      clear h4 m4 c0 c1 c2 c3 c4 c5 c6 c7 c8 c9 c10 c11 c12 HAB
      obtain ⟨⟨ac, ax, ao⟩, hac⟩ : ∃ y : CacheM × Line × Bool, y = a := ⟨_, rfl⟩
      subst hac
      simp only at HFA HBN HT ⊢
      obtain ⟨f1, f2⟩ := HFA.out
      have hbp2 := HBN.out
      have hpo2 := (HT.out.here.ok.good pinned).pos
      cases ao
      · by_cases hq : d.block = pinned
        · have hq' : (d.block == pinned) = true := by simpa using hq
          have e9 : (ac.tok pinned).count = (c.tok pinned).count + d.tokens.count := by rw [f2]; rw [if_pos hq]
          have hcmp : ((ac.tok pinned).count != (c.tok pinned).count + d.tokens.count) = false := by rw [e9]; simp
          have hcmp2 : ((c.tok pinned).count + d.tokens.count != (c.tok pinned).count + d.tokens.count) = false := by simp
          have e8 : IntKind.i64.wrap ((c.tok pinned).count + d.tokens.count) = (c.tok pinned).count + d.tokens.count := by rw [IntKind.wrap_i64]; omega
          have E9 := Lib.hid e9
          clear e9 f1 f2 hq
          go_wp2_with fail
          refine (Get_calls pinned (HT.out.same (Chg.below (by repeat (first | with_reducible exact Chg.refl _ _ | with_reducible exact chg0 | with_reducible refine Chg.drewN ?_ _ | with_reducible refine Chg.drew ?_ | with_reducible refine Chg.alloc ?_ _ | with_reducible refine Chg.setCell ?_ _ _ (by first | (simp; done) | omega | (simp; omega)) | with_reducible refine Chg.setBlock ?_ _ _ (by first | (simp; done) | omega | (simp; omega)) | exact Chg.refl _ _)))).here).mono ?_
          rintro e w6 ⟨rfl, hb6⟩
          replace HT := Lib.hid ((HT.out.same (Chg.below (by repeat (first | with_reducible exact Chg.refl _ _ | with_reducible exact chg0 | with_reducible refine Chg.drewN ?_ _ | with_reducible refine Chg.drew ?_ | with_reducible refine Chg.alloc ?_ _ | with_reducible refine Chg.setCell ?_ _ _ (by first | (simp; done) | omega | (simp; omega)) | with_reducible refine Chg.setBlock ?_ _ _ (by first | (simp; done) | omega | (simp; omega)) | exact Chg.refl _ _)))).same hb6)
          clear hb6
          simp only [Bundle.val, Bundle.cells]
          go_wp2_with fail
          go_roundg (l.length - (k + 1))
          case rel => exact ⟨_, k + 1, ac, _, rfl, by omega, rfl, by go_num, by rw [E9.out], HT.out, fun j => by have h1 := HBN.out j; have h2 := HBD.out j; omega⟩
          case measure => omega
        · have hq' : (d.block == pinned) = false := by simpa using hq
          have e9 : (ac.tok pinned).count = (c.tok pinned).count := by rw [f2]; rw [if_neg hq]; omega
          have hcmp : ((ac.tok pinned).count != (c.tok pinned).count) = false := by rw [e9]; simp
          have hcmp2 : ((c.tok pinned).count != (c.tok pinned).count) = false := by simp
          have E9 := Lib.hid e9
          clear e9 f1 f2 hq
          go_wp2_with fail
          refine (Get_calls pinned (HT.out.same (Chg.below (by repeat (first | with_reducible exact Chg.refl _ _ | with_reducible exact chg0 | with_reducible refine Chg.drewN ?_ _ | with_reducible refine Chg.drew ?_ | with_reducible refine Chg.alloc ?_ _ | with_reducible refine Chg.setCell ?_ _ _ (by first | (simp; done) | omega | (simp; omega)) | with_reducible refine Chg.setBlock ?_ _ _ (by first | (simp; done) | omega | (simp; omega)) | exact Chg.refl _ _)))).here).mono ?_
          rintro e w6 ⟨rfl, hb6⟩
          replace HT := Lib.hid ((HT.out.same (Chg.below (by repeat (first | with_reducible exact Chg.refl _ _ | with_reducible exact chg0 | with_reducible refine Chg.drewN ?_ _ | with_reducible refine Chg.drew ?_ | with_reducible refine Chg.alloc ?_ _ | with_reducible refine Chg.setCell ?_ _ _ (by first | (simp; done) | omega | (simp; omega)) | with_reducible refine Chg.setBlock ?_ _ _ (by first | (simp; done) | omega | (simp; omega)) | exact Chg.refl _ _)))).same hb6)
          clear hb6
          simp only [Bundle.val, Bundle.cells]
          go_wp2_with fail
          go_roundg (l.length - (k + 1))
          case rel => exact ⟨_, k + 1, ac, _, rfl, by omega, rfl, by go_num, by rw [E9.out], HT.out, fun j => by have h1 := HBN.out j; have h2 := HBD.out j; omega⟩
          case measure => omega
      · have hx : (ax.block == pinned) = false := by have := f1 rfl; simpa using this
        by_cases hq : d.block = pinned
        · have hq' : (d.block == pinned) = true := by simpa using hq
          have e9 : (ac.tok pinned).count = (c.tok pinned).count + d.tokens.count := by rw [f2]; rw [if_pos hq]
          have hcmp : ((ac.tok pinned).count != (c.tok pinned).count + d.tokens.count) = false := by rw [e9]; simp
          have hcmp2 : ((c.tok pinned).count + d.tokens.count != (c.tok pinned).count + d.tokens.count) = false := by simp
          have e8 : IntKind.i64.wrap ((c.tok pinned).count + d.tokens.count) = (c.tok pinned).count + d.tokens.count := by rw [IntKind.wrap_i64]; omega
          have E9 := Lib.hid e9
          clear e9 f1 f2 hq
          go_wp2_with fail
          refine (Get_calls pinned (HT.out.same (Chg.below (by repeat (first | with_reducible exact Chg.refl _ _ | with_reducible exact chg0 | with_reducible refine Chg.drewN ?_ _ | with_reducible refine Chg.drew ?_ | with_reducible refine Chg.alloc ?_ _ | with_reducible refine Chg.setCell ?_ _ _ (by first | (simp; done) | omega | (simp; omega)) | with_reducible refine Chg.setBlock ?_ _ _ (by first | (simp; done) | omega | (simp; omega)) | exact Chg.refl _ _)))).here).mono ?_
          rintro e w6 ⟨rfl, hb6⟩
          replace HT := Lib.hid ((HT.out.same (Chg.below (by repeat (first | with_reducible exact Chg.refl _ _ | with_reducible exact chg0 | with_reducible refine Chg.drewN ?_ _ | with_reducible refine Chg.drew ?_ | with_reducible refine Chg.alloc ?_ _ | with_reducible refine Chg.setCell ?_ _ _ (by first | (simp; done) | omega | (simp; omega)) | with_reducible refine Chg.setBlock ?_ _ _ (by first | (simp; done) | omega | (simp; omega)) | exact Chg.refl _ _)))).same hb6)
          clear hb6
          simp only [Bundle.val, Bundle.cells]
          go_wp2_with fail
          go_roundg (l.length - (k + 1))
          case rel => exact ⟨_, k + 1, ac, _, rfl, by omega, rfl, by go_num, by rw [E9.out], HT.out, fun j => by have h1 := HBN.out j; have h2 := HBD.out j; omega⟩
          case measure => omega
        · have hq' : (d.block == pinned) = false := by simpa using hq
          have e9 : (ac.tok pinned).count = (c.tok pinned).count := by rw [f2]; rw [if_neg hq]; omega
          have hcmp : ((ac.tok pinned).count != (c.tok pinned).count) = false := by rw [e9]; simp
          have hcmp2 : ((c.tok pinned).count != (c.tok pinned).count) = false := by simp
          have E9 := Lib.hid e9
          clear e9 f1 f2 hq
          go_wp2_with fail
          refine (Get_calls pinned (HT.out.same (Chg.below (by repeat (first | with_reducible exact Chg.refl _ _ | with_reducible exact chg0 | with_reducible refine Chg.drewN ?_ _ | with_reducible refine Chg.drew ?_ | with_reducible refine Chg.alloc ?_ _ | with_reducible refine Chg.setCell ?_ _ _ (by first | (simp; done) | omega | (simp; omega)) | with_reducible refine Chg.setBlock ?_ _ _ (by first | (simp; done) | omega | (simp; omega)) | exact Chg.refl _ _)))).here).mono ?_
          rintro e w6 ⟨rfl, hb6⟩
          replace HT := Lib.hid ((HT.out.same (Chg.below (by repeat (first | with_reducible exact Chg.refl _ _ | with_reducible exact chg0 | with_reducible refine Chg.drewN ?_ _ | with_reducible refine Chg.drew ?_ | with_reducible refine Chg.alloc ?_ _ | with_reducible refine Chg.setCell ?_ _ _ (by first | (simp; done) | omega | (simp; omega)) | with_reducible refine Chg.setBlock ?_ _ _ (by first | (simp; done) | omega | (simp; omega)) | exact Chg.refl _ _)))).same hb6)
          clear hb6
          simp only [Bundle.val, Bundle.cells]
          go_wp2_with fail
          go_roundg (l.length - (k + 1))
          case rel => exact ⟨_, k + 1, ac, _, rfl, by omega, rfl, by go_num, by rw [E9.out], HT.out, fun j => by have h1 := HBN.out j; have h2 := HBD.out j; omega⟩
          case measure => omega
    · go_wp2_with fail
      go_ret
      exact ⟨rfl, below_trans B1.out HT.out.below⟩
set_option maxRecDepth 100000 in
theorem cachePinned_lifted (os : Os) (started : os.Started) (H : Type) (enc : TypeId × Value → H) :
    ReturnsInHanded {} Try.checked os 6 .any (Rows.cachePinnedSpec.pre6 enc Try.prog Try.f6 Rows.cachePinnedRow.domain false) (Rows.cachePinnedSpec.post enc Try.prog Try.f6 false true false false) := by
  refine returnsInHanded_of_change (C := Try.checked) law_own started (by kernel_rfl) Try.func6
    (ChangeSpec.witness6 (enc := enc) (C := Try.checked) false ⟨#[], #[.agg #[.int .i64 0, .int .i64 0], .slice none 0 0, .int .i64 0], []⟩ 8 (by kernel_rfl) (by kernel_rfl) (by kernel_rfl) (by kernel_rfl)) ?_
  intro W base args ds gs before hval0 hW hcnd _
  have hval : ∀ (j : Nat) t v, Try.f6.params[j]? = some t → args[j]? = some v → Value.okWide Try.prog W .any base t v := hval0
  have hW' := hW
  obtain ⟨p, q, hA0, hV, rfl, hfz, hnd⟩ := hW
  have hA : DataW.TrodAll enc Try.prog W 0 (fun _ => true) true Try.f6.params.toList args.toList ds p := hA0
  rw [Try.params6] at hA hval
  obtain ⟨v0, vs0, d0, ds0, p0, q0, hargs, rfl, rfl, h0, r0⟩ := trodAll_cons hA
  obtain ⟨v1, vs1, d1, ds1, p1, q1, rfl, rfl, rfl, h1, r1⟩ := trodAll_cons r0
  obtain ⟨v2, vs2, d2, ds2, p2, q2, rfl, rfl, rfl, h2, r2⟩ := trodAll_cons r1
  obtain ⟨rfl, rfl, rfl⟩ := trodAll_nil r2
  obtain rfl : args = #[v0, v1, v2] := by cases args; simp_all
  obtain ⟨rfl, rfl⟩ := trodVars_none hV
  have k0 := h0
  have lt0 : ∀ x ∈ p0, x.block < W.heap.size := by obtain ⟨m, hm⟩ := k0; exact DataW.trod_lt m _ _ _ hm
  obtain ⟨f0, g0⟩ := h0
  obtain ⟨cs0, rfl, _⟩ := okWide_array Try.underlying22 (hval 0 22 v0 rfl rfl)
  obtain ⟨x0, e0, o0⟩ := Pair.of_trod g0
  obtain rfl : cs0 = x0.cells.toArray := by simp only [Value.cells] at e0; rw [← e0]
  have k1 := h1
  have lt1 : ∀ x ∈ p1, x.block < W.heap.size := by obtain ⟨m, hm⟩ := k1; exact DataW.trod_lt m _ _ _ hm
  obtain ⟨f1, g1⟩ := h1
  obtain ⟨l1, s1, o1⟩ := slice_of_trod (sz := 13) (cells := Act09.cells) (ok := Act09.ok) Try.underlying42 (by kernel_rfl) (by decide) (fun _ => rfl) Act09.of_trod g1 (okWide_slice Try.underlying42 (hval 1 42 v1 rfl rfl))
  have k2 := h2
  have lt2 : ∀ x ∈ p2, x.block < W.heap.size := by obtain ⟨m, hm⟩ := k2; exact DataW.trod_lt m _ _ _ hm
  obtain ⟨f2, g2⟩ := h2
  obtain ⟨x2, e2, o2⟩ := int_of_trod g2
  obtain rfl := one_value (hval 2 3 v2 rfl rfl) Try.underlying3 e2
  clear hA0 hval0
  refine (cachePinned_walk x0 o0 l1 v1 W s1 o1 x2 o2).mono fun e W' ⟨he, bel⟩ => ?_
  subst he
  exact ⟨_, rfl, _, _, _, [], _, [], hW', trodAll_mk1 (shut_bool Try.underlying4 _), (trodAll_cons_mk (Below.trod law_laidOut (by kernel_rfl) (of_decide_eq_true (by kernel_rfl)) k0 bel lt0) (trodAll_cons_mk (Below.trod law_laidOut (by kernel_rfl) (of_decide_eq_true (by kernel_rfl)) k1 bel lt1) (trodAll_cons_mk (Below.trod law_laidOut (by kernel_rfl) (of_decide_eq_true (by kernel_rfl)) k2 bel lt2) trodAll_mk0))), rfl, bel.frame _, fun h => by cases h⟩

theorem cachePinned_holds : Rows.CachePinnedSaid :=
  OpenClaim.holds_of_wide 6 Try.f6 rfl rfl rfl rfl rfl rfl rfl ⟨rfl, rfl, rfl, rfl, rfl⟩ rfl rfl rfl rfl rfl (by kernel_rfl) Try.func6 (by kernel_rfl)
    (of_decide_eq_true (by kernel_rfl)) (by unfold Func.isWrapper; first | (rw [if_pos (by decide +kernel)]; kernel_rfl) | (rw [if_neg (by decide +kernel)]; exact ⟨rfl, rfl⟩))
    (fun os started H enc _ => cachePinned_lifted os started H enc)
end Go.Proofs.Ytocnhmakgbdbfaa
