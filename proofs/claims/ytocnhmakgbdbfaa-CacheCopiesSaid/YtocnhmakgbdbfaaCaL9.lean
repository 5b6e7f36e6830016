/-
  CacheCopies: a copy has the lines with their tokens, and knows nothing of what becomes of those; nor those of it. No condition.
-/
import Derived.Test.YtocnhmakgbdbfaaCaL6
import Derived.Test.YtocnhmakgbdbfaaCaP6
import Derived.Test.YtocnhmakgbdbfaaCaR4
import Derived.Test.YtocnhmakgbdbfaaCa10
namespace Go.Proofs.Ytocnhmakgbdbfaa
open Go.RowKit Go.Sort Go.ChangeShapes Go.WideShapes Go.ChangeAt
open Go.ChangeMaps (setBlock)
set_option linter.unusedVariables false
set_option linter.unusedSimpArgs false

set_option maxHeartbeats 8000000 in
set_option maxRecDepth 100000 in
theorem cacheCopies_walk (sizes : Pair) (hs : sizes.ok) (l : List Act09) (v : Value) (w : World) (hsl : SliceIs w 13 v (l.map Act09.cells)) (hok : ∀ d ∈ l, d.ok) (block : Int) (hpn : i64ok block) :
    Calls Try.prog 12 #[sizes.val, v, .int .i64 block] w fun e w' => e = .returned (.bool true) ∧ Below w.heap.size w w' := by
  have HSL := Lib.hid hsl
  obtain ⟨A, cap, rfl, h1, h2, h3⟩ := hsl
  simp only [List.length_map] at h1 h2 h3 HSL ⊢
  have H3 := Lib.hid h3
  clear h3 hok hpn hs
  obtain ⟨s0, s1⟩ := sizes
  simp only [Pair.val, Pair.cells]
  go_enter Try.func12, Try.ntmps12
  go_wp2_with fail
  refine (caAwake_calls _).mono ?_
  rintro e w1 ⟨rfl, hb1'⟩
  go_wp2_with fail
  refine (right_calls l _ _ (HSL.out.below (below_trans (Chg.below (by repeat (first | with_reducible exact Chg.refl _ _ | with_reducible exact chg0 | with_reducible refine Chg.drewN ?_ _ | with_reducible refine Chg.drew ?_ | with_reducible refine Chg.alloc ?_ _ | with_reducible refine Chg.setCell ?_ _ _ (by first | (simp; done) | omega | (simp; omega)) | with_reducible refine Chg.setBlock ?_ _ _ (by first | (simp; done) | omega | (simp; omega)) | exact Chg.refl _ _))) hb1'))).mono ?_
  rintro e w2 ⟨r, rfl, hr, hb2'⟩
  have hb1 : Below w.heap.size w w2 := below_trans (below_trans (Chg.below (by repeat (first | with_reducible exact Chg.refl _ _ | with_reducible exact chg0 | with_reducible refine Chg.drewN ?_ _ | with_reducible refine Chg.drew ?_ | with_reducible refine Chg.alloc ?_ _ | with_reducible refine Chg.setCell ?_ _ _ (by first | (simp; done) | omega | (simp; omega)) | with_reducible refine Chg.setBlock ?_ _ _ (by first | (simp; done) | omega | (simp; omega)) | exact Chg.refl _ _))) hb1') hb2'
  have sz0 := hb1'.size
  have sz1 := hb2'.size
  simp [go_sem] at sz0 sz1
  have siz0 : w2.cell? ⟨w.heap.size, 0, none⟩ = some (.int .i64 s0) := by rw [hb2'.cell (by simp <;> omega), hb1'.cell (by simp <;> omega)]; simp [go_sem]
  have siz1 : w2.cell? ⟨w.heap.size, 1, none⟩ = some (.int .i64 s1) := by rw [hb2'.cell (by simp <;> omega), hb1'.cell (by simp <;> omega)]; simp [go_sem]
  have HR := Lib.hid hr
  clear hb1' hb2' hr
  cases r
  · go_wp2_with fail
    refine (caAwake_calls _).mono ?_
    rintro e w3 ⟨rfl, hb3⟩
    go_wp2_with fail
    go_ret
    exact ⟨rfl, below_trans hb1 hb3⟩
  have B1 := Lib.hid hb1
  obtain ⟨hl200, hfit⟩ := HR.out rfl
  have HFIT := Lib.hid hfit
  clear hfit HR hb1
  go_wp2_with fail
  refine (CacheNew_calls s0 s1 _).mono ?_
  rintro e w3 ⟨p, F1, rfl, hp3, hF1, hb3⟩
  have HT1 := Lib.hid (show Ca0 w2 w3 p (CacheM.new s0 s1) F1 from ⟨hp3, hF1, below_trans (Chg.below (by repeat (first | with_reducible exact Chg.refl _ _ | with_reducible exact chg0 | with_reducible refine Chg.drewN ?_ _ | with_reducible refine Chg.drew ?_ | with_reducible refine Chg.alloc ?_ _ | with_reducible refine Chg.setCell ?_ _ _ (by first | (simp; done) | omega | (simp; omega)) | with_reducible refine Chg.setBlock ?_ _ _ (by first | (simp; done) | omega | (simp; omega)) | exact Chg.refl _ _))) hb3⟩)
  clear hp3 hF1 hb3 siz0 siz1
  go_wp2_with fail
  go_loopg [32] l.length (fun g i wx => ∃ (wr : World) (k : Nat) (c : CacheM) (F : Nat → Prop), wx = wr ∧ k ≤ l.length ∧ g = l.length - k ∧ i = .int .i64 k ∧ Ca0 w2 wr p c F ∧ ∀ j, (c.tok j).count ≤ k * 1048576)
  case atStart => exact ⟨_, 0, _, F1, rfl, Nat.zero_le _, rfl, rfl, HT1.out, fun j => by simp [CacheM.new, Bundle.none]⟩
  case round =>
    obtain ⟨wr, k, c, F, rfl, hk, rfl, rfl, hT, hbd⟩ := hrel
    clear HT1
    have HT := Lib.hid hT
    have HBD := Lib.hid hbd
    have sr := hT.below.size
    have ok := hT.here.ok
    have OK := Lib.hid ok
    have HF0 := Lib.hid (fun j (hj : F j) => hT.here.lt hj)
    clear hT hbd ok
    by_cases hlt : k < l.length
    · obtain ⟨q, off, rfl, hrows⟩ := H3.out (by omega)
      have hrow := act09At hrows (below_trans B1.out HT.out.below) hlt
      have hmem : l[k] ∈ l := List.getElem_mem hlt
      obtain ⟨d, hd⟩ : ∃ d, d = l[k] := ⟨_, rfl⟩
      rw [← hd] at hrow hmem
      have hfd := HFIT.out d hmem
      have HFD := Lib.hid hfd
      obtain ⟨c0, c1, c2, c3, c4, c5, c6, c7, c8, c9, c10, c11, c12⟩ := Act09.range hrow
      have hcnt : d.tokens.count ≤ 1048576 := hfd.2
      have hcn0 : 0 ≤ d.tokens.count := hfd.1.pos
      have hbl := HBD.out d.block
      clear hd hrow hrows hfd hmem
      go_wp2_with fail
      refine (Absorb_calls d.block d.tokens d.pinned (HT.out.same (Chg.below (by repeat (first | with_reducible exact Chg.refl _ _ | with_reducible exact chg0 | with_reducible refine Chg.drewN ?_ _ | with_reducible refine Chg.drew ?_ | with_reducible refine Chg.alloc ?_ _ | with_reducible refine Chg.setCell ?_ _ _ (by first | (simp; done) | omega | (simp; omega)) | with_reducible refine Chg.setBlock ?_ _ _ (by first | (simp; done) | omega | (simp; omega)) | exact Chg.refl _ _)))).here HFD.out.1 (by omega)).mono ?_
      rintro e w4 ⟨rfl, F4, h4, m4⟩
      replace HT := Lib.hid ((HT.out.same (Chg.below (by repeat (first | with_reducible exact Chg.refl _ _ | with_reducible exact chg0 | with_reducible refine Chg.drewN ?_ _ | with_reducible refine Chg.drew ?_ | with_reducible refine Chg.alloc ?_ _ | with_reducible refine Chg.setCell ?_ _ _ (by first | (simp; done) | omega | (simp; omega)) | with_reducible refine Chg.setBlock ?_ _ _ (by first | (simp; done) | omega | (simp; omega)) | exact Chg.refl _ _)))).moves h4 m4)
      generalize (c.absorb d.block d.tokens d.pinned).2 = ab
      simp only [Line.val, Line.cells]
      clear h4 m4 c0 c1 c2 c3 c4 c5 c6 c7 c8 c9 c10 c11 c12
      go_wp2_with fail
      go_roundg (l.length - (k + 1))
      case rel => exact ⟨_, k + 1, _, F4, rfl, by omega, rfl, by go_num, HT.out, fun j => by have h1 := absorb_bound OK.out d.block HFD.out.1 d.pinned j; have h2 := HBD.out j; omega⟩
      case measure => omega
    · have hk200 : k ≤ 200 := by omega
      have hbd2 : ∀ j, (c.tok j).count ≤ 209715200 := fun j => by have := HBD.out j; omega
      have HBD2 := Lib.hid hbd2
      have hfew : c.all.length ≤ 1024 := by rw [CacheM.all_len, list_len']; exact Lines.few OK.out.lines
      clear HBD hbd2 hk200
      go_wp2_with fail
      refine (All_calls HT.out.here).mono ?_
      rintro e w4 ⟨u4, rfl, hu4, hul4, hb4⟩
      obtain ⟨A4, cap4, e4⟩ := hu4.form
      rw [List.length_map] at e4
      subst e4
      replace HT := Lib.hid (HT.out.same hb4)
      have HU := Lib.hid hu4
      have hnF : ∀ j, (Value.slice A4 c.all.length cap4).ownBlock = some j → ¬ F j := fun j hj hf => by
        have h1 := hul4 j hj
        have h2 := HF0.out j hf
        omega
      have NFU := Lib.hid hnF
      clear hu4 hul4 hb4 hnF
      go_wp2_with fail
      refine (CacheCopy_calls (HT.out.same (Chg.below (by repeat (first | with_reducible exact Chg.refl _ _ | with_reducible exact chg0 | with_reducible refine Chg.drewN ?_ _ | with_reducible refine Chg.drew ?_ | with_reducible refine Chg.alloc ?_ _ | with_reducible refine Chg.setCell ?_ _ _ (by first | (simp; done) | omega | (simp; omega)) | with_reducible refine Chg.setBlock ?_ _ _ (by first | (simp; done) | omega | (simp; omega)) | exact Chg.refl _ _)))).here).mono ?_
      rintro e w5 ⟨q5, G, rfl, hq, hG, hb5⟩
      have hnG : ∀ j, F j → ¬ G j := fun j hf hg => by
        have h1 := hG j hg
        have h2 := HT.out.here.lt hf
        first | omega | (simp at h1; omega)
      have NG := Lib.hid hnG
      have hGlow : ∀ j, G j → w2.heap.size ≤ j := fun j hj => by
        have h1 := hG j hj
        have h2 := HT.out.below.size
        first | omega | (simp at h1; omega)
      have HGL := Lib.hid hGlow
      replace HT := Lib.hid ((HT.out.same (Chg.below (by repeat (first | with_reducible exact Chg.refl _ _ | with_reducible exact chg0 | with_reducible refine Chg.drewN ?_ _ | with_reducible refine Chg.drew ?_ | with_reducible refine Chg.alloc ?_ _ | with_reducible refine Chg.setCell ?_ _ _ (by first | (simp; done) | omega | (simp; omega)) | with_reducible refine Chg.setBlock ?_ _ _ (by first | (simp; done) | omega | (simp; omega)) | exact Chg.refl _ _)))).same hb5)
      replace HU := Lib.hid (HU.out.chg (S := fun _ => False) (Chg.of_below (below_trans (Chg.below (by repeat (first | with_reducible exact Chg.refl _ _ | with_reducible exact chg0 | with_reducible refine Chg.drewN ?_ _ | with_reducible refine Chg.drew ?_ | with_reducible refine Chg.alloc ?_ _ | with_reducible refine Chg.setCell ?_ _ _ (by first | (simp; done) | omega | (simp; omega)) | with_reducible refine Chg.setBlock ?_ _ _ (by first | (simp; done) | omega | (simp; omega)) | exact Chg.refl _ _))) hb5)) (fun _ _ h => h))
      have HQ := Lib.hid hq
      clear hq hG hb5 hnG hGlow
      obtain ⟨L, hL⟩ : ∃ L, L = c.lines.list := ⟨_, rfl⟩
      have hall : c.all = L.map fun b => ⟨b, c.tok b⟩ := by rw [hL]; rfl
      have hlen : c.all.length = L.length := by rw [hall, List.length_map]
      have hnd : L.Nodup := by rw [hL]; exact (List.mergeSort_perm _ _).nodup_iff.2 OK.out.lines.nodup
      have hmm : ∀ x, x ∈ L ↔ x ∈ c.lines.all := fun x => by rw [hL]; exact list_mem _ _
      have HA := Lib.hid hall
      have HLn := Lib.hid hlen
      have HND := Lib.hid hnd
      have HMM := Lib.hid hmm
      rw [hlen] at NFU HU hfew ⊢
      clear hL hall hlen hnd hmm
      go_wp2_with fail
      go_loopg [53] L.length (fun g i wx => ∃ (wr : World) (k2 : Nat) (c' : CacheM) (F' : Nat → Prop), wx = wr ∧ k2 ≤ L.length ∧ g = L.length - k2 ∧ i = .int .i64 k2 ∧ CacheAt wr p c' F' ∧ Moves w5 wr F F' ∧ ∀ j, c'.tok j = if j ∈ L.take k2 then Bundle.none else c.tok j)
      case atStart => exact ⟨_, 0, c, F, rfl, Nat.zero_le _, rfl, rfl, HT.out.here.below (Chg.below (by repeat (first | with_reducible exact Chg.refl _ _ | with_reducible exact chg0 | with_reducible refine Chg.drewN ?_ _ | with_reducible refine Chg.drew ?_ | with_reducible refine Chg.alloc ?_ _ | with_reducible refine Chg.setCell ?_ _ _ (by first | (simp; done) | omega | (simp; omega)) | with_reducible refine Chg.setBlock ?_ _ _ (by first | (simp; done) | omega | (simp; omega)) | exact Chg.refl _ _))), Moves.none (by repeat (first | with_reducible exact Chg.refl _ _ | with_reducible exact chg0 | with_reducible refine Chg.drewN ?_ _ | with_reducible refine Chg.drew ?_ | with_reducible refine Chg.alloc ?_ _ | with_reducible refine Chg.setCell ?_ _ _ (by first | (simp; done) | omega | (simp; omega)) | with_reducible refine Chg.setBlock ?_ _ _ (by first | (simp; done) | omega | (simp; omega)) | exact Chg.refl _ _)), fun j => by simp⟩
      case round =>
        obtain ⟨wr, k2, c', F', rfl, hk2, rfl, rfl, hc', hmv, htk⟩ := hrel
        have HC := Lib.hid hc'
        have HM := Lib.hid hmv
        have HTK := Lib.hid htk
        have OK' := Lib.hid hc'.ok
        clear hc' hmv htk
        by_cases hlt2 : k2 < L.length
        · obtain ⟨A', cap', e', t1, t2, t3⟩ := sliceLines (HU.out.chg HM.out.chg (fun j hj => NFU.out j hj)).slice
          rw [HLn.out] at e' t1 t2
          cases e'
          obtain ⟨bb, off2, rfl, hc⟩ := t3 (by rw [HLn.out]; omega)
          obtain ⟨x, hx⟩ : ∃ x, x = L[k2] := ⟨_, rfl⟩
          have hc2 := hc k2 (by rw [HLn.out]; exact hlt2)
          have hxe : c.all[k2]'(by rw [HLn.out]; exact hlt2) = ⟨x, c.tok x⟩ := by simp only [HA.out, List.getElem_map, hx]
          rw [hxe] at hc2
          obtain ⟨d0, d1, d2, d3, d4⟩ := Line.range hc2
          have htake : L.take (k2 + 1) = L.take k2 ++ [x] := by rw [hx]; exact List.take_succ_eq_append_getElem hlt2
          have hnot : x ∉ L.take k2 := fun hm => by
            have h1 := HND.out
            rw [← List.take_append_drop (k2 + 1) L, htake, List.nodup_append] at h1
            have h2 := h1.1
            rw [List.nodup_append] at h2
            exact h2.2.2 x hm x (by simp) rfl
          have hsame : c'.tok x = c.tok x := by rw [HTK.out, if_neg hnot]
          have HTA := Lib.hid htake
          have HSA := Lib.hid hsame
          have hbx := HBD2.out x
          clear hc hc2 hx hxe htake hnot hsame t1 t2 t3
          go_wp2_with fail
          refine (Take_calls x (c.tok x).count true true (HC.out.below (Chg.below (by repeat (first | with_reducible exact Chg.refl _ _ | with_reducible exact chg0 | with_reducible refine Chg.drewN ?_ _ | with_reducible refine Chg.drew ?_ | with_reducible refine Chg.alloc ?_ _ | with_reducible refine Chg.setCell ?_ _ _ (by first | (simp; done) | omega | (simp; omega)) | with_reducible refine Chg.setBlock ?_ _ _ (by first | (simp; done) | omega | (simp; omega)) | exact Chg.refl _ _)))) (by rw [HSA.out]; omega)).mono ?_
          rintro e w6 ⟨rfl, F6, h6, m6⟩
          have HM6 := Lib.hid (HM.out.trans (Moves.trans (F1 := F') (Moves.none (by repeat (first | with_reducible exact Chg.refl _ _ | with_reducible exact chg0 | with_reducible refine Chg.drewN ?_ _ | with_reducible refine Chg.drew ?_ | with_reducible refine Chg.alloc ?_ _ | with_reducible refine Chg.setCell ?_ _ _ (by first | (simp; done) | omega | (simp; omega)) | with_reducible refine Chg.setBlock ?_ _ _ (by first | (simp; done) | omega | (simp; omega)) | exact Chg.refl _ _))) m6))
          have e6 : (c'.take x (c.tok x).count true true).1 = c'.takeAll x := by unfold CacheM.takeAll; rw [HSA.out]
          rw [e6] at h6
          have H6 := Lib.hid h6
          generalize (c'.take x (c.tok x).count true true).2 = ab
          simp only [Bundle.val, Bundle.cells]
          clear h6 m6 e6 d0 d1 d2 d3 d4
          go_wp2_with fail
          go_roundg (L.length - (k2 + 1))
          case rel =>
            refine ⟨_, k2 + 1, _, F6, rfl, by omega, rfl, by go_num, H6.out, HM6.out, fun j => ?_⟩
            rw [takeAll_tok OK'.out, HTK.out, HTA.out]
            by_cases hj : j = x
            · subst hj; simp
            · simp [hj]
          case measure => omega
        · have hnone : ∀ j, c'.tok j = Bundle.none := fun j => by
            rw [HTK.out, List.take_of_length_le (by omega)]
            split
            · rfl
            · rename_i hj
              exact OK.out.none fun hm => hj ((HMM.out j).2 hm)
          have HNO := Lib.hid hnone
          have h0 : (c'.tok block).count = 0 := by rw [hnone]; rfl
          clear hnone
          go_wp2_with fail
          refine (Absorb_calls block one09 (-1) (HC.out.below (Chg.below (by repeat (first | with_reducible exact Chg.refl _ _ | with_reducible exact chg0 | with_reducible refine Chg.drewN ?_ _ | with_reducible refine Chg.drew ?_ | with_reducible refine Chg.alloc ?_ _ | with_reducible refine Chg.setCell ?_ _ _ (by first | (simp; done) | omega | (simp; omega)) | with_reducible refine Chg.setBlock ?_ _ _ (by first | (simp; done) | omega | (simp; omega)) | exact Chg.refl _ _)))) one09_good (by rw [h0]; decide)).mono ?_
          rintro e w6 ⟨rfl, F6, h6, m6⟩
          have HM6 := Lib.hid (HM.out.trans (Moves.trans (F1 := F') (Moves.none (by repeat (first | with_reducible exact Chg.refl _ _ | with_reducible exact chg0 | with_reducible refine Chg.drewN ?_ _ | with_reducible refine Chg.drew ?_ | with_reducible refine Chg.alloc ?_ _ | with_reducible refine Chg.setCell ?_ _ _ (by first | (simp; done) | omega | (simp; omega)) | with_reducible refine Chg.setBlock ?_ _ _ (by first | (simp; done) | omega | (simp; omega)) | exact Chg.refl _ _))) m6))
          have hone := one_line (CacheM.absorb_ok OK'.out block one09_good (-1)) block (fun j hj => absorb_other OK'.out HNO.out block one09 (-1) j hj)
          obtain ⟨⟨c6, ax, ao⟩, hc6⟩ : ∃ y, y = c'.absorb block one09 (-1) := ⟨_, rfl⟩
          simp only [← hc6] at h6 hone ⊢
          have H6 := Lib.hid h6
          have HQ6 := Lib.hid (HQ.out.chg HM6.out.chg (fun j hj hf => NG.out j hf hj))
          have HU6 := Lib.hid (HU.out.chg HM6.out.chg (fun j hj => NFU.out j hj))
          have hdis : ∀ j, F6 j → ¬ G j := fun j hf hg => by
            rcases HM6.out.fresh j hf with h | h
            · exact NG.out j h hg
            · have := HQ.out.lt hg; omega
          have HDI := Lib.hid hdis
          have hbel : Below w2.heap.size w2 w6 := Moves.below HT.out.below HM6.out (fun j hj => HT.out.low j hj)
          have HBE := Lib.hid hbel
          have hqb := HBD2.out block
          clear h6 m6 hc6 h0 hdis hbel HM HC HTK HU
          simp only [Line.val, Line.cells]
          go_wp2_with fail
          refine (All_calls (HQ6.out.below (Chg.below (by repeat (first | with_reducible exact Chg.refl _ _ | with_reducible exact chg0 | with_reducible refine Chg.drewN ?_ _ | with_reducible refine Chg.drew ?_ | with_reducible refine Chg.alloc ?_ _ | with_reducible refine Chg.setCell ?_ _ _ (by first | (simp; done) | omega | (simp; omega)) | with_reducible refine Chg.setBlock ?_ _ _ (by first | (simp; done) | omega | (simp; omega)) | exact Chg.refl _ _))))).mono ?_
          rintro e w7 ⟨u7, rfl, hu7, _, hb7⟩
          have hs7 : Below w6.heap.size w6 w7 := below_trans (Chg.below (by repeat (first | with_reducible exact Chg.refl _ _ | with_reducible exact chg0 | with_reducible refine Chg.drewN ?_ _ | with_reducible refine Chg.drew ?_ | with_reducible refine Chg.alloc ?_ _ | with_reducible refine Chg.setCell ?_ _ _ (by first | (simp; done) | omega | (simp; omega)) | with_reducible refine Chg.setBlock ?_ _ _ (by first | (simp; done) | omega | (simp; omega)) | exact Chg.refl _ _))) hb7
          have HU7 := Lib.hid hu7.slice
          have HS7 := Lib.hid hs7
          obtain ⟨A7, cap7, e7⟩ := hu7.form
          rw [List.length_map, HLn.out] at e7
          subst e7
          clear hu7 hb7 hs7
          go_wp2_with fail
          refine (LineSame_calls c.all _ _ _ (HU7.out.below (Chg.below (by repeat (first | with_reducible exact Chg.refl _ _ | with_reducible exact chg0 | with_reducible refine Chg.drewN ?_ _ | with_reducible refine Chg.drew ?_ | with_reducible refine Chg.alloc ?_ _ | with_reducible refine Chg.setCell ?_ _ _ (by first | (simp; done) | omega | (simp; omega)) | with_reducible refine Chg.setBlock ?_ _ _ (by first | (simp; done) | omega | (simp; omega)) | exact Chg.refl _ _)))) (HU6.out.slice.below (below_trans HS7.out (Chg.below (by repeat (first | with_reducible exact Chg.refl _ _ | with_reducible exact chg0 | with_reducible refine Chg.drewN ?_ _ | with_reducible refine Chg.drew ?_ | with_reducible refine Chg.alloc ?_ _ | with_reducible refine Chg.setCell ?_ _ _ (by first | (simp; done) | omega | (simp; omega)) | with_reducible refine Chg.setBlock ?_ _ _ (by first | (simp; done) | omega | (simp; omega)) | exact Chg.refl _ _)))))).mono ?_
          rintro e w8 ⟨rfl, n8, rfl⟩
          obtain ⟨n6, hn6⟩ : ∃ n, n = c6.all.length := ⟨_, rfl⟩
          have HN6 := Lib.hid hn6
          rw [← hn6] at hone
          clear hn6
          go_wp2_with fail
          refine (All_calls (H6.out.below (below_trans HS7.out (Chg.below (by repeat (first | with_reducible exact Chg.refl _ _ | with_reducible exact chg0 | with_reducible refine Chg.drewN ?_ _ | with_reducible refine Chg.drew ?_ | with_reducible refine Chg.alloc ?_ _ | with_reducible refine Chg.setCell ?_ _ _ (by first | (simp; done) | omega | (simp; omega)) | with_reducible refine Chg.setBlock ?_ _ _ (by first | (simp; done) | omega | (simp; omega)) | exact Chg.refl _ _)))))).mono ?_
          rintro e w9 ⟨u9, rfl, hu9, _, hb9⟩
          have hs9 : Below w6.heap.size w6 w9 := below_trans (below_trans HS7.out (Chg.below (by repeat (first | with_reducible exact Chg.refl _ _ | with_reducible exact chg0 | with_reducible refine Chg.drewN ?_ _ | with_reducible refine Chg.drew ?_ | with_reducible refine Chg.alloc ?_ _ | with_reducible refine Chg.setCell ?_ _ _ (by first | (simp; done) | omega | (simp; omega)) | with_reducible refine Chg.setBlock ?_ _ _ (by first | (simp; done) | omega | (simp; omega)) | exact Chg.refl _ _)))) hb9
          have HS9 := Lib.hid hs9
          obtain ⟨A9, cap9, e9⟩ := hu9.form
          rw [List.length_map, ← HN6.out] at e9
          subst e9
          clear hu9 hb9 hs9
          go_wp2_with fail
          refine (Absorb_calls block one09 (-1) (HQ6.out.below (below_trans HS9.out (Chg.below (by repeat (first | with_reducible exact Chg.refl _ _ | with_reducible exact chg0 | with_reducible refine Chg.drewN ?_ _ | with_reducible refine Chg.drew ?_ | with_reducible refine Chg.alloc ?_ _ | with_reducible refine Chg.setCell ?_ _ _ (by first | (simp; done) | omega | (simp; omega)) | with_reducible refine Chg.setBlock ?_ _ _ (by first | (simp; done) | omega | (simp; omega)) | exact Chg.refl _ _))))) one09_good (by show _ + (1 : Int) ≤ _; omega)).mono ?_
          rintro e w10 ⟨rfl, G10, h10, m10⟩
          have H10 := Lib.hid (CacheAt.chg (H6.out.below (below_trans HS9.out (Chg.below (by repeat (first | with_reducible exact Chg.refl _ _ | with_reducible exact chg0 | with_reducible refine Chg.drewN ?_ _ | with_reducible refine Chg.drew ?_ | with_reducible refine Chg.alloc ?_ _ | with_reducible refine Chg.setCell ?_ _ _ (by first | (simp; done) | omega | (simp; omega)) | with_reducible refine Chg.setBlock ?_ _ _ (by first | (simp; done) | omega | (simp; omega)) | exact Chg.refl _ _))))) m10.chg (fun j hj hg => HDI.out j hj hg))
          have hb10 : Below w.heap.size w w10 := below_trans B1.out (Moves.below (below_trans HBE.out (below_trans HS9.out (Chg.below (by repeat (first | with_reducible exact Chg.refl _ _ | with_reducible exact chg0 | with_reducible refine Chg.drewN ?_ _ | with_reducible refine Chg.drew ?_ | with_reducible refine Chg.alloc ?_ _ | with_reducible refine Chg.setCell ?_ _ _ (by first | (simp; done) | omega | (simp; omega)) | with_reducible refine Chg.setBlock ?_ _ _ (by first | (simp; done) | omega | (simp; omega)) | exact Chg.refl _ _))))) m10 (fun j hj => by have := HGL.out j hj; omega))
          have HB10 := Lib.hid hb10
          generalize (c.absorb block one09 (-1)).2 = ab10
          simp only [Line.val, Line.cells]
          clear h10 m10 hb10
          have hcmp : decide ((n6 : Int) ≤ 1) = true := by simp; omega
          have hcmp2 : decide (n6 ≤ 1) = true := by simpa using hone
          have hq1 : ((n6 : Int) == (n6 : Int)) = true := by simp
          go_wp2_with fail
          refine (All_calls (H10.out.below (Chg.below (by repeat (first | with_reducible exact Chg.refl _ _ | with_reducible exact chg0 | with_reducible refine Chg.drewN ?_ _ | with_reducible refine Chg.drew ?_ | with_reducible refine Chg.alloc ?_ _ | with_reducible refine Chg.setCell ?_ _ _ (by first | (simp; done) | omega | (simp; omega)) | with_reducible refine Chg.setBlock ?_ _ _ (by first | (simp; done) | omega | (simp; omega)) | exact Chg.refl _ _))))).mono ?_
          rintro e w11 ⟨u11, rfl, hu11, _, hb11⟩
          obtain ⟨A11, cap11, e11⟩ := hu11.form
          rw [List.length_map, ← HN6.out] at e11
          subst e11
          clear hu11
          go_wp2_with fail
          go_ret
          exact ⟨by simp, below_trans HB10.out (below_trans (Chg.below (by repeat (first | with_reducible exact Chg.refl _ _ | with_reducible exact chg0 | with_reducible refine Chg.drewN ?_ _ | with_reducible refine Chg.drew ?_ | with_reducible refine Chg.alloc ?_ _ | with_reducible refine Chg.setCell ?_ _ _ (by first | (simp; done) | omega | (simp; omega)) | with_reducible refine Chg.setBlock ?_ _ _ (by first | (simp; done) | omega | (simp; omega)) | exact Chg.refl _ _))) hb11)⟩
set_option maxRecDepth 100000 in
theorem cacheCopies_lifted (os : Os) (started : os.Started) (H : Type) (enc : TypeId × Value → H) :
    ReturnsInHanded {} Try.checked os 12 .any (Rows.cacheCopiesSpec.pre6 enc Try.prog Try.f12 Rows.cacheCopiesRow.domain false) (Rows.cacheCopiesSpec.post enc Try.prog Try.f12 false true false false) := by
  refine returnsInHanded_of_change (C := Try.checked) law_own started (by kernel_rfl) Try.func12
    (ChangeSpec.witness6 (enc := enc) (C := Try.checked) false ⟨#[], #[.agg #[.int .i64 0, .int .i64 0], .slice none 0 0, .int .i64 0], []⟩ 8 (by kernel_rfl) (by kernel_rfl) (by kernel_rfl) (by kernel_rfl)) ?_
  intro W base args ds gs before hval0 hW hcnd _
  have hval : ∀ (j : Nat) t v, Try.f12.params[j]? = some t → args[j]? = some v → Value.okWide Try.prog W .any base t v := hval0
  have hW' := hW
  obtain ⟨p, q, hA0, hV, rfl, hfz, hnd⟩ := hW
  have hA : DataW.TrodAll enc Try.prog W 0 (fun _ => true) true Try.f12.params.toList args.toList ds p := hA0
  rw [Try.params12] at hA hval
  obtain ⟨v0, vs0, d0, ds0, p0, q0, hargs, rfl, rfl, h0, r0⟩ := trodAll_cons hA
  obtain ⟨v1, vs1, d1, ds1, p1, q1, rfl, rfl, rfl, h1, r1⟩ := trodAll_cons r0
  obtain ⟨v2, vs2, d2, ds2, p2, q2, rfl, rfl, rfl, h2, r2⟩ := trodAll_cons r1
  obtain ⟨rfl, rfl, rfl⟩ := trodAll_nil r2
  obtain rfl : args = #[v0, v1, v2] := by cases args; simp_all
  obtain ⟨rfl, rfl⟩ := trodVars_none hV
  have k0 := h0
  have lt0 : ∀ x ∈ p0, x.block < W.heap.size := by obtain ⟨m, hm⟩ := k0; exact DataW.trod_lt m _ _ _ hm
  obtain ⟨f0, g0⟩ := h0
  obtain ⟨cs0, rfl, _⟩ := okWide_array Try.underlying22 (hval 0 22 v0 rfl rfl)
  obtain ⟨x0, e0, o0⟩ := Pair.of_trod g0
  obtain rfl : cs0 = x0.cells.toArray := by simp only [Value.cells] at e0; rw [← e0]
  have k1 := h1
  have lt1 : ∀ x ∈ p1, x.block < W.heap.size := by obtain ⟨m, hm⟩ := k1; exact DataW.trod_lt m _ _ _ hm
  obtain ⟨f1, g1⟩ := h1
  obtain ⟨l1, s1, o1⟩ := slice_of_trod (sz := 13) (cells := Act09.cells) (ok := Act09.ok) Try.underlying42 (by kernel_rfl) (by decide) (fun _ => rfl) Act09.of_trod g1 (okWide_slice Try.underlying42 (hval 1 42 v1 rfl rfl))
  have k2 := h2
  have lt2 : ∀ x ∈ p2, x.block < W.heap.size := by obtain ⟨m, hm⟩ := k2; exact DataW.trod_lt m _ _ _ hm
  obtain ⟨f2, g2⟩ := h2
  obtain ⟨x2, e2, o2⟩ := int_of_trod g2
  obtain rfl := one_value (hval 2 3 v2 rfl rfl) Try.underlying3 e2
  clear hA0 hval0
  refine (cacheCopies_walk x0 o0 l1 v1 W s1 o1 x2 o2).mono fun e W' ⟨he, bel⟩ => ?_
  subst he
  exact ⟨_, rfl, _, _, _, [], _, [], hW', trodAll_mk1 (shut_bool Try.underlying4 _), (trodAll_cons_mk (Below.trod law_laidOut (by kernel_rfl) (of_decide_eq_true (by kernel_rfl)) k0 bel lt0) (trodAll_cons_mk (Below.trod law_laidOut (by kernel_rfl) (of_decide_eq_true (by kernel_rfl)) k1 bel lt1) (trodAll_cons_mk (Below.trod law_laidOut (by kernel_rfl) (of_decide_eq_true (by kernel_rfl)) k2 bel lt2) trodAll_mk0))), rfl, bel.frame _, fun h => by cases h⟩

theorem cacheCopies_holds : Rows.CacheCopiesSaid :=
  OpenClaim.holds_of_wide 12 Try.f12 rfl rfl rfl rfl rfl rfl rfl ⟨rfl, rfl, rfl, rfl, rfl⟩ rfl rfl rfl rfl rfl (by kernel_rfl) Try.func12 (by kernel_rfl)
    (of_decide_eq_true (by kernel_rfl)) (by unfold Func.isWrapper; first | (rw [if_pos (by decide +kernel)]; kernel_rfl) | (rw [if_neg (by decide +kernel)]; exact ⟨rfl, rfl⟩))
    (fun os started H enc _ => cacheCopies_lifted os started H enc)
end Go.Proofs.Ytocnhmakgbdbfaa
