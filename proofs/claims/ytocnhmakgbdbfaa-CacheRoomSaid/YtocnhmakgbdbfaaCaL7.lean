/-
  CacheRoom: never has a set more lines than ways; each line has at least one token, and each block at most one line. No condition.
-/
import Derived.Test.YtocnhmakgbdbfaaCaL6
import Derived.Test.YtocnhmakgbdbfaaCaP5
import Derived.Test.YtocnhmakgbdbfaaJ4
namespace Go.Proofs.Ytocnhmakgbdbfaa
open Go.RowKit Go.Sort Go.ChangeShapes Go.WideShapes Go.ChangeAt
open Go.ChangeMaps (setBlock)
set_option linter.unusedVariables false
set_option linter.unusedSimpArgs false

set_option maxHeartbeats 8000000 in
set_option maxRecDepth 100000 in
theorem cacheRoom_walk (sets : Int) (hs : i64ok sets) (ways : Int) (hw : i64ok ways) (l : List Act09) (v : Value) (w : World) (hsl : SliceIs w 13 v (l.map Act09.cells)) (hok : ∀ d ∈ l, d.ok) :
    Calls Try.prog 11 #[.int .i64 sets, .int .i64 ways, v] w fun e w' => e = .returned (.bool true) ∧ Below w.heap.size w w' := by
  have hmm := @run_makeMap Try.prog
  have HSL := Lib.hid hsl
  obtain ⟨A, cap, rfl, h1, h2, h3⟩ := hsl
  simp only [List.length_map] at h1 h2 h3 HSL ⊢
  have H3 := Lib.hid h3
  clear h3 hok hs hw
  go_enter Try.func11, Try.ntmps11
  go_wp2_with fail
  refine (caAwake_calls _).mono ?_
  rintro e w1 ⟨rfl, hb1'⟩
  go_wp2_with fail
  refine (right_calls l _ _ (HSL.out.below (below_trans (Chg.below (by repeat (first | with_reducible exact Chg.refl _ _ | with_reducible exact chg0 | with_reducible refine Chg.drewN ?_ _ | with_reducible refine Chg.drew ?_ | with_reducible refine Chg.alloc ?_ _ | with_reducible refine Chg.setCell ?_ _ _ (by first | (simp; done) | omega | (simp; omega)) | with_reducible refine Chg.setBlock ?_ _ _ (by first | (simp; done) | omega | (simp; omega)) | exact Chg.refl _ _))) hb1'))).mono ?_
  rintro e w2 ⟨r, rfl, hr, hb2'⟩
  have hb1 : Below w.heap.size w w2 := below_trans (below_trans (Chg.below (by repeat (first | with_reducible exact Chg.refl _ _ | with_reducible exact chg0 | with_reducible refine Chg.drewN ?_ _ | with_reducible refine Chg.drew ?_ | with_reducible refine Chg.alloc ?_ _ | with_reducible refine Chg.setCell ?_ _ _ (by first | (simp; done) | omega | (simp; omega)) | with_reducible refine Chg.setBlock ?_ _ _ (by first | (simp; done) | omega | (simp; omega)) | exact Chg.refl _ _))) hb1') hb2'
  have HR := Lib.hid hr
  clear hb1' hb2' hr
  cases r
  · go_wp2_with fail
    refine (caAwake_calls _).mono ?_
    rintro e w3 ⟨rfl, hb3⟩
    go_wp2_with fail
    go_ret
    exact ⟨rfl, below_trans hb1 hb3⟩
  have B1 := Lib.hid hb1
  obtain ⟨hl200, hfit⟩ := HR.out rfl
  have HFIT := Lib.hid hfit
  clear hfit HR hb1
  by_cases g1 : sets < 1
  · have g1' : decide (sets < 1) = true := by simpa using g1
    go_wp2_with fail
    refine (caAwake_calls _).mono ?_
    rintro e w3 ⟨rfl, hb3⟩
    go_wp2_with fail
    go_ret
    exact ⟨rfl, below_trans B1.out hb3⟩
  have g1' : decide (sets < 1) = false := by simpa using g1
  by_cases g2 : 64 < sets
  · have g2' : decide (64 < sets) = true := by simpa using g2
    go_wp2_with fail
    refine (caAwake_calls _).mono ?_
    rintro e w3 ⟨rfl, hb3⟩
    go_wp2_with fail
    go_ret
    exact ⟨rfl, below_trans B1.out hb3⟩
  have g2' : decide (64 < sets) = false := by simpa using g2
  by_cases g3 : ways < 1
  · have g3' : decide (ways < 1) = true := by simpa using g3
    go_wp2_with fail
    refine (caAwake_calls _).mono ?_
    rintro e w3 ⟨rfl, hb3⟩
    go_wp2_with fail
    go_ret
    exact ⟨rfl, below_trans B1.out hb3⟩
  have g3' : decide (ways < 1) = false := by simpa using g3
  by_cases g4 : 16 < ways
  · have g4' : decide (16 < ways) = true := by simpa using g4
    go_wp2_with fail
    refine (caAwake_calls _).mono ?_
    rintro e w3 ⟨rfl, hb3⟩
    go_wp2_with fail
    go_ret
    exact ⟨rfl, below_trans B1.out hb3⟩
  have g4' : decide (16 < ways) = false := by simpa using g4
  go_wp2_with fail
  refine (CacheNew_calls sets ways _).mono ?_
  rintro e w3 ⟨p, F1, rfl, hp3, hF1, hb3⟩
  have HT1 := Lib.hid (show Ca0 w2 w3 p (CacheM.new sets ways) F1 from ⟨hp3, hF1, below_trans (Chg.below (by repeat (first | with_reducible exact Chg.refl _ _ | with_reducible exact chg0 | with_reducible refine Chg.drewN ?_ _ | with_reducible refine Chg.drew ?_ | with_reducible refine Chg.alloc ?_ _ | with_reducible refine Chg.setCell ?_ _ _ (by first | (simp; done) | omega | (simp; omega)) | with_reducible refine Chg.setBlock ?_ _ _ (by first | (simp; done) | omega | (simp; omega)) | exact Chg.refl _ _))) hb3⟩)
  clear hp3 hF1 hb3 g1' g2' g3' g4'
  have hz1 : 1 ≤ sets := by omega
  have hz2 : sets ≤ 64 := by omega
  have hy1 : 1 ≤ ways := by omega
  have hy2 : ways ≤ 16 := by omega
  have HSW := Lib.hid (show (CacheM.new sets ways).lines.sets = sets ∧ (CacheM.new sets ways).lines.ways = ways by
    show clampI sets 1 64 = sets ∧ clampI ways 1 16 = ways
    unfold clampI; omega)
  clear g1 g2 g3 g4
  go_wp2_with fail
  go_loopg [45] l.length (fun g i wx => ∃ (wr : World) (k : Nat) (c : CacheM) (F : Nat → Prop), wx = wr ∧ k ≤ l.length ∧ g = l.length - k ∧ i = .int .i64 k ∧ Ca0 w2 wr p c F ∧ (c.lines.sets = sets ∧ c.lines.ways = ways) ∧ ∀ j, (c.tok j).count ≤ k * 1048576)
  case atStart => exact ⟨_, 0, _, F1, rfl, Nat.zero_le _, rfl, rfl, HT1.out, HSW.out, fun j => by simp [CacheM.new, Bundle.none]⟩
  case round =>
    obtain ⟨wr, k, c, F, rfl, hk, rfl, rfl, hT, hSW, hbd⟩ := hrel
    clear HT1 HSW
    have HT := Lib.hid hT
    have HSW := Lib.hid hSW
    have HBD := Lib.hid hbd
    have sr := hT.below.size
    have HF0 := Lib.hid (fun j (hj : F j) => hT.here.lt hj)
    have ok := hT.here.ok
    have OK := Lib.hid ok
    clear hT hSW hbd ok
    by_cases hlt : k < l.length
    · obtain ⟨q, off, rfl, hrows⟩ := H3.out (by omega)
      have hrow := act09At hrows (below_trans B1.out HT.out.below) hlt
      have hmem : l[k] ∈ l := List.getElem_mem hlt
      obtain ⟨d, hd⟩ : ∃ d, d = l[k] := ⟨_, rfl⟩
      rw [← hd] at hrow hmem
      have hfd := HFIT.out d hmem
      have HFD := Lib.hid hfd
      obtain ⟨c0, c1, c2, c3, c4, c5, c6, c7, c8, c9, c10, c11, c12⟩ := Act09.range hrow
      have hcnt : d.tokens.count ≤ 1048576 := hfd.2
      have hcn0 : 0 ≤ d.tokens.count := hfd.1.pos
      have hbl := HBD.out d.block
      clear hd hrow hrows hfd hmem
      go_upto_if 51 with fail
      go_cut [] (fun wx => ∃ (c' : CacheM) (F' : Nat → Prop), Ca0 w2 wx p c' F' ∧ (c'.lines.sets = sets ∧ c'.lines.ways = ways) ∧ ∀ j, (c'.tok j).count ≤ (k + 1) * 1048576)
      case first =>
        by_cases q1 : d.kind = 2
        · have q1' : (d.kind == 2) = true := by simpa using q1
          clear q1
          go_wp2_with fail
          refine (Take_calls d.block d.count d.owner d.data (HT.out.same (Chg.below (by repeat (first | with_reducible exact Chg.refl _ _ | with_reducible exact chg0 | with_reducible refine Chg.drewN ?_ _ | with_reducible refine Chg.drew ?_ | with_reducible refine Chg.alloc ?_ _ | with_reducible refine Chg.setCell ?_ _ _ (by first | (simp; done) | omega | (simp; omega)) | with_reducible refine Chg.setBlock ?_ _ _ (by first | (simp; done) | omega | (simp; omega)) | exact Chg.refl _ _)))).here (by omega)).mono ?_
          rintro e w4 ⟨rfl, F4, h4, m4⟩
          replace HT := Lib.hid ((HT.out.same (Chg.below (by repeat (first | with_reducible exact Chg.refl _ _ | with_reducible exact chg0 | with_reducible refine Chg.drewN ?_ _ | with_reducible refine Chg.drew ?_ | with_reducible refine Chg.alloc ?_ _ | with_reducible refine Chg.setCell ?_ _ _ (by first | (simp; done) | omega | (simp; omega)) | with_reducible refine Chg.setBlock ?_ _ _ (by first | (simp; done) | omega | (simp; omega)) | exact Chg.refl _ _)))).moves h4 m4)
          generalize (c.take d.block d.count d.owner d.data).2 = ab
          simp only [Bundle.val, Bundle.cells]
          clear h4 m4 c0 c1 c2 c3 c4 c5 c6 c7 c8 c9 c10 c11 c12
          go_wp2_with fail
          go_meet
          have hs := take_sizes c d.block d.count d.owner d.data
          exact ⟨_, F4, HT.out.same (Chg.below (by repeat (first | with_reducible exact Chg.refl _ _ | with_reducible exact chg0 | with_reducible refine Chg.drewN ?_ _ | with_reducible refine Chg.drew ?_ | with_reducible refine Chg.alloc ?_ _ | with_reducible refine Chg.setCell ?_ _ _ (by first | (simp; done) | omega | (simp; omega)) | with_reducible refine Chg.setBlock ?_ _ _ (by first | (simp; done) | omega | (simp; omega)) | exact Chg.refl _ _))), ⟨hs.1.trans HSW.out.1, hs.2.trans HSW.out.2⟩, fun j => by have h1 := take_bound OK.out d.block d.count d.owner d.data j; have h2 := HBD.out j; omega⟩
        · have q1' : (d.kind == 2) = false := by simpa using q1
          clear q1
          go_wp2_with fail
          refine (Absorb_calls d.block d.tokens d.pinned (HT.out.same (Chg.below (by repeat (first | with_reducible exact Chg.refl _ _ | with_reducible exact chg0 | with_reducible refine Chg.drewN ?_ _ | with_reducible refine Chg.drew ?_ | with_reducible refine Chg.alloc ?_ _ | with_reducible refine Chg.setCell ?_ _ _ (by first | (simp; done) | omega | (simp; omega)) | with_reducible refine Chg.setBlock ?_ _ _ (by first | (simp; done) | omega | (simp; omega)) | exact Chg.refl _ _)))).here HFD.out.1 (by omega)).mono ?_
          rintro e w4 ⟨rfl, F4, h4, m4⟩
          replace HT := Lib.hid ((HT.out.same (Chg.below (by repeat (first | with_reducible exact Chg.refl _ _ | with_reducible exact chg0 | with_reducible refine Chg.drewN ?_ _ | with_reducible refine Chg.drew ?_ | with_reducible refine Chg.alloc ?_ _ | with_reducible refine Chg.setCell ?_ _ _ (by first | (simp; done) | omega | (simp; omega)) | with_reducible refine Chg.setBlock ?_ _ _ (by first | (simp; done) | omega | (simp; omega)) | exact Chg.refl _ _)))).moves h4 m4)
          generalize (c.absorb d.block d.tokens d.pinned).2 = ab
          simp only [Line.val, Line.cells]
          clear h4 m4 c0 c1 c2 c3 c4 c5 c6 c7 c8 c9 c10 c11 c12
          go_wp2_with fail
          go_meet
          have hs := absorb_sizes c d.block d.tokens d.pinned
          exact ⟨_, F4, HT.out.same (Chg.below (by repeat (first | with_reducible exact Chg.refl _ _ | with_reducible exact chg0 | with_reducible refine Chg.drewN ?_ _ | with_reducible refine Chg.drew ?_ | with_reducible refine Chg.alloc ?_ _ | with_reducible refine Chg.setCell ?_ _ _ (by first | (simp; done) | omega | (simp; omega)) | with_reducible refine Chg.setBlock ?_ _ _ (by first | (simp; done) | omega | (simp; omega)) | exact Chg.refl _ _))), ⟨hs.1.trans HSW.out.1, hs.2.trans HSW.out.2⟩, fun j => by have h1 := absorb_bound OK.out d.block HFD.out.1 d.pinned j; have h2 := HBD.out j; omega⟩
      case rest =>
        obtain ⟨c', F', hT, hSW, hBD⟩ := hcut
        clear HT HSW HBD OK HF0 c0 c1 c2 c3 c4 c5 c6 c7 c8 c9 c10 c11 c12 hbl
        have hfew := Lines.few hT.here.ok.lines
        have OK := Lib.hid hT.here.ok
        have HSW := Lib.hid hSW
        have HBD := Lib.hid hBD
        have HT := Lib.hid hT
        have hfew2 : c'.lines.list.length ≤ 1024 := by rw [list_len']; exact hfew
        clear hT hSW hBD hfew
        go_wp2_with fail
        refine (All_calls (HT.out.same (Chg.below (by repeat (first | with_reducible exact Chg.refl _ _ | with_reducible exact chg0 | with_reducible refine Chg.drewN ?_ _ | with_reducible refine Chg.drew ?_ | with_reducible refine Chg.alloc ?_ _ | with_reducible refine Chg.setCell ?_ _ _ (by first | (simp; done) | omega | (simp; omega)) | with_reducible refine Chg.setBlock ?_ _ _ (by first | (simp; done) | omega | (simp; omega)) | exact Chg.refl _ _)))).here).mono ?_
        rintro e w4 ⟨u4, rfl, hu4, hul4, hb4⟩
        have bm : ob w4 wc.heap.size = some (.map #[] 0) := (Chg.of_below (S := fun _ => False) hb4).ob (by simp [go_sem]) (fun h => h)
        have hml := ob_lt bm
        obtain ⟨A4, cap4, e4⟩ := hu4.form
        rw [List.length_map, CacheM.all_len] at e4
        subst e4
        have hba : Below wc.heap.size wc w4 := below_trans (Chg.below (by repeat (first | with_reducible exact Chg.refl _ _ | with_reducible exact chg0 | with_reducible refine Chg.drewN ?_ _ | with_reducible refine Chg.drew ?_ | with_reducible refine Chg.alloc ?_ _ | with_reducible refine Chg.setCell ?_ _ _ (by first | (simp; done) | omega | (simp; omega)) | with_reducible refine Chg.setBlock ?_ _ _ (by first | (simp; done) | omega | (simp; omega)) | exact Chg.refl _ _))) hb4
        have HU := Lib.hid hu4
        have HT4 := Lib.hid (HT.out.same hba)
        have hu5 : ∀ j, (Value.slice A4 c'.lines.list.length cap4).ownBlock = some j → j ≠ wc.heap.size := fun j hj => by
          have := hul4 j hj
          simp [go_sem] at this
          omega
        have HUL := Lib.hid hu5
        have HN := Lib.hid (fun j (hj : F' j) => Nat.ne_of_lt (HT.out.here.lt hj))
        have hsz0 := HT.out.below.size
        have key : ∀ w5, Chg (fun j => j = wc.heap.size) w4 w5 → OwnSl w5 53 5 (.slice A4 c'.lines.list.length cap4) (c'.all.map Line.cells) ∧ Ca0 w2 w5 p c' F' := fun w5 hc =>
          ⟨HU.out.chg hc (fun j hj => HUL.out j hj), HT4.out.here.chg hc (fun j hj => HN.out j hj), HT4.out.low, below_chg HT4.out.below hc fun j hj e => by omega⟩
        have KEY := Lib.hid key
        clear hu4 hul4 hb4 hu5 hba HT key HU HUL HN HT4
        obtain ⟨mb, hmb⟩ : ∃ mb, mb = wc.heap.size := ⟨_, rfl⟩
        rw [← hmb] at bm hml KEY ⊢
        clear hmb
        obtain ⟨L, hL⟩ : ∃ L, L = c'.lines.list := ⟨_, rfl⟩
        have hroom := fun k h => room_at OK.out k h
        have hall : c'.all = L.map fun b => ⟨b, c'.tok b⟩ := by rw [hL]; rfl
        simp only [HSW.out.1, HSW.out.2] at hroom
        simp only [← hL] at hroom KEY hfew2 ⊢
        rw [hall] at KEY
        have HRM := Lib.hid hroom
        clear hL hall hroom
        go_wp2_with fail
        go_loopg [11, 74] L.length (fun g s11 i wx => ∃ (wr2 : World) (k2 : Nat) (o : Obj) (f : Int → Option Value) (last : Int), wx = wr2 ∧ k2 ≤ L.length ∧ g = L.length - k2 ∧ i = .int .i64 k2 ∧ s11 = .int .i64 last ∧ (k2 = 0 → last = -1) ∧ (∀ j, j < k2 → j + 1 = k2 → last = L.getD j 0) ∧ ob wr2 mb = some o ∧ MapObj o f ∧ IntMap (fun q => ((cntOf sets (L.take k2) q : Nat) : Int)) f ∧ Chg (fun j => j = mb) w4 wr2)
        case atStart => exact ⟨_, 0, _, _, -1, rfl, Nat.zero_le _, rfl, rfl, rfl, fun _ => rfl, fun j hj => absurd hj (Nat.not_lt_zero _), bm, MapObj.empty 0, IntMap.empty, Chg.refl _ _⟩
        case round =>
          obtain ⟨wr, k2, o, f, last, rfl, hk2, rfl, rfl, rfl, hl0, hl1, hob, hmo, him, hch⟩ := hrel
          have HI := Lib.hid him
          have HC := Lib.hid hch
          have sz2 := hch.size
          clear him hch bm
          by_cases hlt2 : k2 < L.length
          · obtain ⟨A', cap', e', t1, t2, t3⟩ := sliceLines (KEY.out _ HC.out).1.slice
            rw [List.length_map] at e' t1 t2
            cases e'
            obtain ⟨bb, off2, rfl, hc⟩ := t3 (by rw [List.length_map]; omega)
            obtain ⟨r1, r2, r3, r4⟩ := HRM.out k2 hlt2
            obtain ⟨x, hx⟩ : ∃ x, x = L.getD k2 0 := ⟨_, rfl⟩
            have hxe : L[k2] = x := by rw [hx]; simp [List.getD, hlt2]
            have hc2 := hc k2 (by rw [List.length_map]; exact hlt2)
            rw [List.getElem_map, hxe] at hc2
            obtain ⟨d0, d1, d2, d3, d4⟩ := Line.range hc2
            have hlast : last < x := by
              rcases Nat.eq_zero_or_pos k2 with h0 | h0
              · rw [hl0 h0, hx]; omega
              · rw [hl1 (k2 - 1) (by omega) (by omega), hx]; exact r1 (k2 - 1) (by omega)
            rw [← hx] at r2 r3
            have HX := Lib.hid hx
            have htake : L.take (k2 + 1) = L.take k2 ++ [x] := by rw [hx, List.take_add_one, List.getD_eq_getElem?_getD, List.getElem?_eq_getElem hlt2]; rfl
            have HTk := Lib.hid htake
            have r5 := r4 (x % sets)
            rw [htake, cntOf_snoc, if_pos rfl] at r5
            obtain ⟨cn, hcn⟩ : ∃ cn, cn = cntOf sets (L.take k2) (x % sets) := ⟨_, rfl⟩
            rw [← hcn] at r5
            have HCN := Lib.hid hcn
            have hlk : ∀ W : World, ob W mb = some o → (Instr.lookup 37 (.map (some mb)) (.int .i64 (x % sets)) false).run Try.prog W = .ok (.int .i64 cn) W := fun W hW => by
              rw [hmo.lookup tyII (x % sets) _ W hW, HI.out, hcn]
            have hcb : (cn : Int) + 1 ≤ ways := by omega
            have e1 : IntKind.i64.wrap ((cn : Int) + 1) = (cn : Int) + 1 := by rw [IntKind.wrap_i64]; omega
            obtain ⟨o2, hom2, hmu⟩ := hmo.update tyII (x % sets) (.int .i64 ((cn : Int) + 1)) mb
            have hlk2 : ∀ W : World, ob W mb = some o2 → (Instr.lookup 37 (.map (some mb)) (.int .i64 (x % sets)) false).run Try.prog W = .ok (.int .i64 ((cn : Int) + 1)) W := fun W hW => by
              rw [hom2.lookup tyII (x % sets) _ W hW]; simp [upd]
            have Hom2 := Lib.hid hom2
            have q2 : decide (x ≤ last) = false := by simpa using hlast
            have q3 : decide ((c'.tok x).count < 1) = false := by simp; omega
            have q4 : decide (ways < (cn : Int) + 1) = false := by simp; omega
            have lm1 : mb < wr.heap.size := by omega
            have hmb1 : mb < wr.heap.size + 1 := by omega
            have hmne : wr.heap.size ≠ mb := by omega
            clear hc hcn hmo hom2 t1 t2 t3 hc2 r1 r4 hl0 hl1 htake hlast hxe r5 hx
            go_wp2_with fail
            go_roundg (L.length - (k2 + 1))
            case rel =>
              refine ⟨_, k2 + 1, o2, _, x, rfl, by omega, rfl, by go_num, rfl, fun h => by omega, fun j hj h => by rw [show j = k2 by omega]; exact HX.out, ?_, Hom2.out, ?_, ?_⟩
              · simp [go_sem, *]
              · have h1 := HI.out.upd (x % sets) ((cn : Int) + 1)
                intro q
                rw [h1 q, HTk.out]
                simp only [cntOf_snoc]
                by_cases hq : q = x % sets
                · subst hq
                  rw [if_pos rfl, if_pos rfl, HCN.out]
                  rfl
                · rw [if_neg hq, if_neg hq]
              · exact HC.out.trans (S' := fun j => j = mb) (by repeat (first | exact Chg.refl _ _ | refine Chg.drewN ?_ _ | refine Chg.alloc ?_ _ | refine Chg.setCell ?_ _ _ (by simp) | refine Chg.setBlock ?_ _ _ (fun _ => rfl))) (fun _ _ h => h)
            case measure => omega
          · have HP := Lib.hid (KEY.out _ HC.out).2
            go_wp2_with fail
            go_roundg (l.length - (k + 1))
            case rel => exact ⟨_, k + 1, c', F', rfl, by omega, rfl, by go_num, HP.out, HSW.out, fun j => by have := HBD.out j; omega⟩
            case measure => omega
    · go_wp2_with fail
      go_ret
      exact ⟨rfl, below_trans B1.out HT.out.below⟩
set_option maxRecDepth 100000 in
theorem cacheRoom_lifted (os : Os) (started : os.Started) (H : Type) (enc : TypeId × Value → H) :
    ReturnsInHanded {} Try.checked os 11 .any (Rows.cacheRoomSpec.pre6 enc Try.prog Try.f11 Rows.cacheRoomRow.domain false) (Rows.cacheRoomSpec.post enc Try.prog Try.f11 false true false false) := by
  refine returnsInHanded_of_change (C := Try.checked) law_own started (by kernel_rfl) Try.func11
    (ChangeSpec.witness6 (enc := enc) (C := Try.checked) false ⟨#[], #[.int .i64 0, .int .i64 0, .slice none 0 0], []⟩ 8 (by kernel_rfl) (by kernel_rfl) (by kernel_rfl) (by kernel_rfl)) ?_
  intro W base args ds gs before hval0 hW hcnd _
  have hval : ∀ (j : Nat) t v, Try.f11.params[j]? = some t → args[j]? = some v → Value.okWide Try.prog W .any base t v := hval0
  have hW' := hW
  obtain ⟨p, q, hA0, hV, rfl, hfz, hnd⟩ := hW
  have hA : DataW.TrodAll enc Try.prog W 0 (fun _ => true) true Try.f11.params.toList args.toList ds p := hA0
  rw [Try.params11] at hA hval
  obtain ⟨v0, vs0, d0, ds0, p0, q0, hargs, rfl, rfl, h0, r0⟩ := trodAll_cons hA
  obtain ⟨v1, vs1, d1, ds1, p1, q1, rfl, rfl, rfl, h1, r1⟩ := trodAll_cons r0
  obtain ⟨v2, vs2, d2, ds2, p2, q2, rfl, rfl, rfl, h2, r2⟩ := trodAll_cons r1
  obtain ⟨rfl, rfl, rfl⟩ := trodAll_nil r2
  obtain rfl : args = #[v0, v1, v2] := by cases args; simp_all
  obtain ⟨rfl, rfl⟩ := trodVars_none hV
  have k0 := h0
  have lt0 : ∀ x ∈ p0, x.block < W.heap.size := by obtain ⟨m, hm⟩ := k0; exact DataW.trod_lt m _ _ _ hm
  obtain ⟨f0, g0⟩ := h0
  obtain ⟨x0, e0, o0⟩ := int_of_trod g0
  obtain rfl := one_value (hval 0 3 v0 rfl rfl) Try.underlying3 e0
  have k1 := h1
  have lt1 : ∀ x ∈ p1, x.block < W.heap.size := by obtain ⟨m, hm⟩ := k1; exact DataW.trod_lt m _ _ _ hm
  obtain ⟨f1, g1⟩ := h1
  obtain ⟨x1, e1, o1⟩ := int_of_trod g1
  obtain rfl := one_value (hval 1 3 v1 rfl rfl) Try.underlying3 e1
  have k2 := h2
  have lt2 : ∀ x ∈ p2, x.block < W.heap.size := by obtain ⟨m, hm⟩ := k2; exact DataW.trod_lt m _ _ _ hm
  obtain ⟨f2, g2⟩ := h2
  obtain ⟨l2, s2, o2⟩ := slice_of_trod (sz := 13) (cells := Act09.cells) (ok := Act09.ok) Try.underlying42 (by kernel_rfl) (by decide) (fun _ => rfl) Act09.of_trod g2 (okWide_slice Try.underlying42 (hval 2 42 v2 rfl rfl))
  clear hA0 hval0
  refine (cacheRoom_walk x0 o0 x1 o1 l2 v2 W s2 o2).mono fun e W' ⟨he, bel⟩ => ?_
  subst he
  exact ⟨_, rfl, _, _, _, [], _, [], hW', trodAll_mk1 (shut_bool Try.underlying4 _), (trodAll_cons_mk (Below.trod law_laidOut (by kernel_rfl) (of_decide_eq_true (by kernel_rfl)) k0 bel lt0) (trodAll_cons_mk (Below.trod law_laidOut (by kernel_rfl) (of_decide_eq_true (by kernel_rfl)) k1 bel lt1) (trodAll_cons_mk (Below.trod law_laidOut (by kernel_rfl) (of_decide_eq_true (by kernel_rfl)) k2 bel lt2) trodAll_mk0))), rfl, bel.frame _, fun h => by cases h⟩

theorem cacheRoom_holds : Rows.CacheRoomSaid :=
  OpenClaim.holds_of_wide 11 Try.f11 rfl rfl rfl rfl rfl rfl rfl ⟨rfl, rfl, rfl, rfl, rfl⟩ rfl rfl rfl rfl rfl (by kernel_rfl) Try.func11 (by kernel_rfl)
    (of_decide_eq_true (by kernel_rfl)) (by unfold Func.isWrapper; first | (rw [if_pos (by decide +kernel)]; kernel_rfl) | (rw [if_neg (by decide +kernel)]; exact ⟨rfl, rfl⟩))
    (fun os started H enc _ => cacheRoom_lifted os started H enc)
end Go.Proofs.Ytocnhmakgbdbfaa
