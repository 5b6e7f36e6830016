/-
  CachePlays: in every order of calls the lines have the tokens that the document says, and what goes, and is done, is what it says. No condition.
-/
import Derived.Test.YtocnhmakgbdbfaaCaL6
import Derived.Test.YtocnhmakgbdbfaaCaP5
import Derived.Test.YtocnhmakgbdbfaaCaR4
namespace Go.Proofs.Ytocnhmakgbdbfaa
open Go.RowKit Go.Sort Go.ChangeShapes Go.WideShapes Go.ChangeAt
open Go.ChangeMaps (setBlock)
set_option linter.unusedVariables false
set_option linter.unusedSimpArgs false

/-- The program's cache and the document's, apart, where the world began. -/
structure TwoC (w0 w : World) (p : Nat) (c : CacheM) (F : Nat → Prop) (m : Nat) (t : CacheM) (G : Nat → Prop) : Prop where
  prog : Ca0 w0 w p c F
  ref : RefCacheAt w m t G
  low : ∀ j, G j → w0.heap.size ≤ j
  apart : ∀ j, F j → G j → False
theorem TwoC.toProg {w0 w w' : World} {p m : Nat} {s s' t : CacheM} {F F' G : Nat → Prop} (h : TwoC w0 w p s F m t G) (h1 : CacheAt w' p s' F') (mv : Moves w w' F F') : TwoC w0 w' p s' F' m t G :=
  ⟨h.prog.moves h1 mv, h.ref.chg mv.chg fun j hj hf => h.apart j hf hj, h.low, fun j hf hg => by
    rcases mv.fresh j hf with h2 | h2
    · exact h.apart j h2 hg
    · have := h.ref.lt hg; omega⟩
theorem TwoC.toRef {w0 w w' : World} {p m : Nat} {s t t' : CacheM} {F G G' : Nat → Prop} (h : TwoC w0 w p s F m t G) (h1 : RefCacheAt w' m t' G') (mv : Moves w w' G G') : TwoC w0 w' p s F m t' G' :=
  ⟨⟨h.prog.here.chg mv.chg fun j hj hg => h.apart j hj hg, h.prog.low, mv.below h.prog.below h.low⟩, h1, mv.low h.low h.prog.below.size, fun j hf hg => by
    rcases mv.fresh j hg with h2 | h2
    · exact h.apart j hf h2
    · have := h.prog.here.lt hf; omega⟩
theorem TwoC.same {w0 w w' : World} {p m : Nat} {s t : CacheM} {F G : Nat → Prop} (h : TwoC w0 w p s F m t G) (h1 : Below w.heap.size w w') : TwoC w0 w' p s F m t G :=
  ⟨h.prog.same h1, h.ref.below h1, h.low, h.apart⟩
theorem TwoC.ofP {w2 wa wb : World} {p m : Nat} {c t : CacheM} {F G : Nat → Prop} (h : CacheAt wa p c F ∧ (∀ j, F j → w2.heap.size ≤ j) ∧ Below w2.heap.size w2 wa) (hb : Below wa.heap.size wa wb) (hm : RefCacheAt wb m t G) (hG : ∀ j, G j → wa.heap.size ≤ j) : TwoC w2 wb p c F m t G :=
  ⟨⟨h.1.below hb, h.2.1, below_trans h.2.2 hb⟩, hm, fun j hj => Nat.le_trans h.2.2.size (hG j hj), fun j hf hg => by have := h.1.lt hf; have := hG j hg; omega⟩
theorem TwoC.ofQ {w2 wa wb : World} {p m : Nat} {c t : CacheM} {F G : Nat → Prop} (h : RefCacheAt wa m t G ∧ (∀ j, G j → w2.heap.size ≤ j) ∧ Below w2.heap.size w2 wa) (hb : Below wa.heap.size wa wb) (hm : CacheAt wb p c F) (hF : ∀ j, F j → wa.heap.size ≤ j) : TwoC w2 wb p c F m t G :=
  ⟨⟨hm, fun j hj => Nat.le_trans h.2.2.size (hF j hj), below_trans h.2.2 hb⟩, h.1.below hb, h.2.1, fun j hf hg => by have := h.1.lt hg; have := hF j hf; omega⟩
theorem keepT {S : Nat → Prop} {w w' : World} {k : Nat} {a b c d : Value} (hc : Chg S w w') (hn : ¬ S k) (h : w.cell? ⟨k, 1, none⟩ = some a ∧ w.cell? ⟨k, 2, none⟩ = some b ∧ w.cell? ⟨k, 4, none⟩ = some c ∧ w.cell? ⟨k, 5, none⟩ = some d) :
    w'.cell? ⟨k, 1, none⟩ = some a ∧ w'.cell? ⟨k, 2, none⟩ = some b ∧ w'.cell? ⟨k, 4, none⟩ = some c ∧ w'.cell? ⟨k, 5, none⟩ = some d :=
  ⟨hc.cell h.1 hn, hc.cell h.2.1 hn, hc.cell h.2.2.1 hn, hc.cell h.2.2.2 hn⟩

set_option maxHeartbeats 8000000 in
set_option maxRecDepth 100000 in
theorem cachePlays_walk (sizes : Pair) (hs : sizes.ok) (l : List Act09) (v : Value) (w : World) (hsl : SliceIs w 13 v (l.map Act09.cells)) (hok : ∀ d ∈ l, d.ok) (ask : Int) (hpn : i64ok ask) :
    Calls Try.prog 8 #[sizes.val, v, .int .i64 ask] w fun e w' => e = .returned (.bool true) ∧ Below w.heap.size w w' := by
  have HSL := Lib.hid hsl
  obtain ⟨A, cap, rfl, h1, h2, h3⟩ := hsl
  simp only [List.length_map] at h1 h2 h3 HSL ⊢
  have H3 := Lib.hid h3
  clear h3 hok hpn hs
  obtain ⟨s0, s1⟩ := sizes
  simp only [Pair.val, Pair.cells]
  go_enter Try.func8, Try.ntmps8
  go_wp2_with fail
  refine (caAwake_calls _).mono ?_
  rintro e w1 ⟨rfl, hb1'⟩
  go_wp2_with fail
  refine (right_calls l _ _ (HSL.out.below (below_trans (Chg.below (by repeat (first | with_reducible exact Chg.refl _ _ | with_reducible exact chg0 | with_reducible refine Chg.drewN ?_ _ | with_reducible refine Chg.drew ?_ | with_reducible refine Chg.alloc ?_ _ | with_reducible refine Chg.setCell ?_ _ _ (by first | (simp; done) | omega | (simp; omega)) | with_reducible refine Chg.setBlock ?_ _ _ (by first | (simp; done) | omega | (simp; omega)) | exact Chg.refl _ _))) hb1'))).mono ?_
  rintro e w2 ⟨r, rfl, hr, hb2'⟩
  have hb1 : Below w.heap.size w w2 := below_trans (below_trans (Chg.below (by repeat (first | with_reducible exact Chg.refl _ _ | with_reducible exact chg0 | with_reducible refine Chg.drewN ?_ _ | with_reducible refine Chg.drew ?_ | with_reducible refine Chg.alloc ?_ _ | with_reducible refine Chg.setCell ?_ _ _ (by first | (simp; done) | omega | (simp; omega)) | with_reducible refine Chg.setBlock ?_ _ _ (by first | (simp; done) | omega | (simp; omega)) | exact Chg.refl _ _))) hb1') hb2'
  have sz0 := hb1'.size
  have sz1 := hb2'.size
  simp [go_sem] at sz0 sz1
  have siz0 : w2.cell? ⟨w.heap.size, 0, none⟩ = some (.int .i64 s0) := by rw [hb2'.cell (by simp <;> omega), hb1'.cell (by simp <;> omega)]; simp [go_sem]
  have siz1 : w2.cell? ⟨w.heap.size, 1, none⟩ = some (.int .i64 s1) := by rw [hb2'.cell (by simp <;> omega), hb1'.cell (by simp <;> omega)]; simp [go_sem]
  have HR := Lib.hid hr
  clear hb1' hb2' hr
  cases r
  · go_wp2_with fail
    refine (caAwake_calls _).mono ?_
    rintro e w3 ⟨rfl, hb3⟩
    go_wp2_with fail
    go_ret
    exact ⟨rfl, below_trans hb1 hb3⟩
  have B1 := Lib.hid hb1
  obtain ⟨hl200, hfit⟩ := HR.out rfl
  have HFIT := Lib.hid hfit
  clear hfit HR hb1
  go_upto_region 3 with fail
  go_cut [7, 8] (fun s7 s8 wx => ∃ (p : Nat) (F : Nat → Prop) (m : Nat) (G : Nat → Prop), s7 = .pointer (some ⟨p, 0, none⟩) ∧ s8 = .pointer (some ⟨m, 0, none⟩) ∧ TwoC w2 wx p (CacheM.new s0 s1) F m (CacheM.new s0 s1) G)
  case first =>
    have hS := And.intro siz0 siz1
    go_region_held3 (fun W => W.cell? ⟨w.heap.size, 0, none⟩ = some (.int .i64 s0) ∧ W.cell? ⟨w.heap.size, 1, none⟩ = some (.int .i64 s1)) (first | assumption | (exact ⟨(Chg.cell (S := fun _ => False) (by repeat (first | with_reducible exact Chg.refl _ _ | with_reducible exact chg0 | with_reducible refine Chg.drewN ?_ _ | with_reducible refine Chg.drew ?_ | with_reducible refine Chg.alloc ?_ _ | with_reducible refine Chg.setCell ?_ _ _ (by first | (simp; done) | omega | (simp; omega)) | with_reducible refine Chg.setBlock ?_ _ _ (by first | (simp; done) | omega | (simp; omega)) | exact Chg.refl _ _)) hS.1 (fun h => h)), (Chg.cell (S := fun _ => False) (by repeat (first | with_reducible exact Chg.refl _ _ | with_reducible exact chg0 | with_reducible refine Chg.drewN ?_ _ | with_reducible refine Chg.drew ?_ | with_reducible refine Chg.alloc ?_ _ | with_reducible refine Chg.setCell ?_ _ _ (by first | (simp; done) | omega | (simp; omega)) | with_reducible refine Chg.setBlock ?_ _ _ (by first | (simp; done) | omega | (simp; omega)) | exact Chg.refl _ _)) hS.2 (fun h => h))⟩) | fail) (first
      | (have hQ := HQ; go_at_call 26; refine (CacheNew_calls s0 s1 _).mono ?_; rintro e wb ⟨p, F1, rfl, hp, hF1, hbb⟩; have hbb' := below_trans (Chg.below (w := wa) (by repeat (first | with_reducible exact Chg.refl _ _ | with_reducible exact chg0 | with_reducible refine Chg.drewN ?_ _ | with_reducible refine Chg.drew ?_ | with_reducible refine Chg.alloc ?_ _ | with_reducible refine Chg.setCell ?_ _ _ (by first | (simp; done) | omega | (simp; omega)) | with_reducible refine Chg.setBlock ?_ _ _ (by first | (simp; done) | omega | (simp; omega)) | exact Chg.refl _ _))) hbb; have HTT := Lib.hid (TwoC.ofQ HQ.out hbb' hp hF1); have hS' := And.intro ((Chg.of_below (S := fun _ => False) hbb').cell hS.1 (fun h => h)) ((Chg.of_below (S := fun _ => False) hbb').cell hS.2 (fun h => h)); clear hS; have hS := hS')
      | (have hQ := HP; go_at_call 31; refine (RefCacheNew_calls s0 s1 _).mono ?_; rintro e wb ⟨m, lm, G1, rfl, hm, hG1, hbb⟩; have hbb' := below_trans (Chg.below (w := wa) (by repeat (first | with_reducible exact Chg.refl _ _ | with_reducible exact chg0 | with_reducible refine Chg.drewN ?_ _ | with_reducible refine Chg.drew ?_ | with_reducible refine Chg.alloc ?_ _ | with_reducible refine Chg.setCell ?_ _ _ (by first | (simp; done) | omega | (simp; omega)) | with_reducible refine Chg.setBlock ?_ _ _ (by first | (simp; done) | omega | (simp; omega)) | exact Chg.refl _ _))) hbb; have HTT := Lib.hid (TwoC.ofP (m := m) (G := G1) (t := CacheM.new s0 s1) HP.out hbb' ⟨lm, [], hm, Toks.nil, CacheM.new_ok s0 s1⟩ hG1); have hS' := And.intro ((Chg.of_below (S := fun _ => False) hbb').cell hS.1 (fun h => h)) ((Chg.of_below (S := fun _ => False) hbb').cell hS.2 (fun h => h)); clear hS; have hS := hS')
      | (go_at_call 26; refine (CacheNew_calls s0 s1 _).mono ?_; rintro e wa ⟨p, F1, rfl, hp, hF1, hba⟩; have hba' := below_trans (Chg.below (w := w2) (by repeat (first | with_reducible exact Chg.refl _ _ | with_reducible exact chg0 | with_reducible refine Chg.drewN ?_ _ | with_reducible refine Chg.drew ?_ | with_reducible refine Chg.alloc ?_ _ | with_reducible refine Chg.setCell ?_ _ _ (by first | (simp; done) | omega | (simp; omega)) | with_reducible refine Chg.setBlock ?_ _ _ (by first | (simp; done) | omega | (simp; omega)) | exact Chg.refl _ _))) hba; have HP := Lib.hid (And.intro hp (And.intro (show ∀ j, F1 j → w2.heap.size ≤ j from fun j hj => hF1 j hj) hba')); have hS' : wa.cell? ⟨w.heap.size, 0, none⟩ = some (.int .i64 s0) ∧ wa.cell? ⟨w.heap.size, 1, none⟩ = some (.int .i64 s1) := ⟨(Chg.of_below (S := fun _ => False) hba').cell hS.1 (fun h => h), (Chg.of_below (S := fun _ => False) hba').cell hS.2 (fun h => h)⟩; clear hS hp hF1 hba; have hS := hS')
      | (go_at_call 31; refine (RefCacheNew_calls s0 s1 _).mono ?_; rintro e wa ⟨m, lm, G1, rfl, hm, hG1, hba⟩; have hba' := below_trans (Chg.below (w := w2) (by repeat (first | with_reducible exact Chg.refl _ _ | with_reducible exact chg0 | with_reducible refine Chg.drewN ?_ _ | with_reducible refine Chg.drew ?_ | with_reducible refine Chg.alloc ?_ _ | with_reducible refine Chg.setCell ?_ _ _ (by first | (simp; done) | omega | (simp; omega)) | with_reducible refine Chg.setBlock ?_ _ _ (by first | (simp; done) | omega | (simp; omega)) | exact Chg.refl _ _))) hba; have HQ := Lib.hid (And.intro (show RefCacheAt wa m (CacheM.new s0 s1) G1 from ⟨lm, [], hm, Toks.nil, CacheM.new_ok s0 s1⟩) (And.intro (show ∀ j, G1 j → w2.heap.size ≤ j from fun j hj => hG1 j hj) hba')); have hS' : wa.cell? ⟨w.heap.size, 0, none⟩ = some (.int .i64 s0) ∧ wa.cell? ⟨w.heap.size, 1, none⟩ = some (.int .i64 s1) := ⟨(Chg.of_below (S := fun _ => False) hba').cell hS.1 (fun h => h), (Chg.of_below (S := fun _ => False) hba').cell hS.2 (fun h => h)⟩; clear hS hm hG1 hba; have hS := hS')
      | fail)
    all_goals (go_wp2_with fail)
    all_goals go_meet
    all_goals exact ⟨_, _, _, _, rfl, rfl, HTT.out.same (Chg.below (by repeat (first | with_reducible exact Chg.refl _ _ | with_reducible exact chg0 | with_reducible refine Chg.drewN ?_ _ | with_reducible refine Chg.drew ?_ | with_reducible refine Chg.alloc ?_ _ | with_reducible refine Chg.setCell ?_ _ _ (by first | (simp; done) | omega | (simp; omega)) | with_reducible refine Chg.setBlock ?_ _ _ (by first | (simp; done) | omega | (simp; omega)) | exact Chg.refl _ _)))⟩
  case rest =>
    obtain ⟨p, F1, m, G1, rfl, rfl, hT⟩ := hcut
    have HT1 := Lib.hid hT
    clear hT siz0 siz1
    go_wp2_with fail
    go_loopg [41] l.length (fun g i wx => ∃ (wr : World) (k : Nat) (c : CacheM) (F G : Nat → Prop), wx = wr ∧ k ≤ l.length ∧ g = l.length - k ∧ i = .int .i64 k ∧ TwoC w2 wr p c F m c G ∧ ∀ j, (c.tok j).count ≤ k * 1048576)
    case atStart => exact ⟨_, 0, _, F1, G1, rfl, Nat.zero_le _, rfl, rfl, HT1.out, fun j => by simp [CacheM.new, Bundle.none]⟩
    case round =>
      obtain ⟨wr, k, c, F, G, rfl, hk, rfl, rfl, hT, hbd⟩ := hrel
      clear HT1
      have HT := Lib.hid hT
      have HBD := Lib.hid hbd
      have sr := hT.prog.below.size
      have HF0 := Lib.hid (fun j (hj : F j) => hT.prog.here.lt hj)
      have HG0 := Lib.hid (fun j (hj : G j) => hT.ref.lt hj)
      have ok := hT.prog.here.ok
      have OK := Lib.hid ok
      clear hT hbd ok
      by_cases hlt : k < l.length
      · obtain ⟨q, off, rfl, hrows⟩ := H3.out (by omega)
        have hrow := act09At hrows (below_trans B1.out HT.out.prog.below) hlt
        have hmem : l[k] ∈ l := List.getElem_mem hlt
        obtain ⟨d, hd⟩ : ∃ d, d = l[k] := ⟨_, rfl⟩
        rw [← hd] at hrow hmem
        have hfd := HFIT.out d hmem
        have HFD := Lib.hid hfd
        obtain ⟨c0, c1, c2, c3, c4, c5, c6, c7, c8, c9, c10, c11, c12⟩ := Act09.range hrow
        have hcnt : d.tokens.count ≤ 1048576 := hfd.2
        have hcn0 : 0 ≤ d.tokens.count := hfd.1.pos
        have hbl := HBD.out d.block
        clear hd hrow hrows hfd hmem
        go_upto_region 9 with fail
        go_cut [46] (fun s46 wx => s46 = .int .i64 d.kind ∧ ob wx wr.heap.size = some (.cells d.cells.toArray 51 (0, 0)) ∧ Chg (fun _ => False) wr wx)
        case first =>
          go_wp2_with fail
          go_meet
          exact ⟨rfl, by simp [go_sem, Act09.cells], (by repeat (first | with_reducible exact Chg.refl _ _ | with_reducible exact chg0 | with_reducible refine Chg.drewN ?_ _ | with_reducible refine Chg.drew ?_ | with_reducible refine Chg.alloc ?_ _ | with_reducible refine Chg.setCell ?_ _ _ (by first | (simp; done) | omega | (simp; omega)) | with_reducible refine Chg.setBlock ?_ _ _ (by first | (simp; done) | omega | (simp; omega)) | exact Chg.refl _ _))⟩
        case rest =>
          obtain ⟨rfl, hob, hch⟩ := hcut
          have NF := Lib.hid (show ¬ F wr.heap.size from fun h => absurd (HF0.out _ h) (Nat.lt_irrefl _))
          have NG := Lib.hid (show ¬ G wr.heap.size from fun h => absurd (HG0.out _ h) (Nat.lt_irrefl _))
          replace HT := Lib.hid (HT.out.same hch.below)
          clear hch c0 c1 c2 c3 c4 c5 c6 c7 c8 c9 c10 c11 c12 HF0 HG0
          obtain ⟨c0, c1, c2, c3, c4, c5, c6, c7, c8, c9, c10, c11, c12, cf, cl⟩ := Act09.obcells hob
          go_upto_block 2 with fail
          go_cut [] (fun wx => ∃ (c' : CacheM) (F' G' : Nat → Prop), TwoC w2 wx p c' F' m c' G' ∧ ∀ j, (c'.tok j).count ≤ (k + 1) * 1048576)
          case first =>
            by_cases q1 : d.kind = 1
            · have q1' : (d.kind == 1) = true := by simpa using q1
              have hbn := fun j => absorb_bound OK.out d.block HFD.out.1 d.pinned j
              have hAB := fun (W : World) (h : CacheAt W p c F) => Absorb_calls (w := W) d.block d.tokens d.pinned h HFD.out.1 (by have := HBD.out d.block; omega)
              have hRB := fun (W : World) (h : RefCacheAt W m c G) => RefAbsorb_calls (w := W) d.block d.tokens d.pinned h HFD.out.1 (by have := HBD.out d.block; omega)
              obtain ⟨⟨ac, ax, ao⟩, ha⟩ : ∃ a, a = c.absorb d.block d.tokens d.pinned := ⟨_, rfl⟩
              simp only [← ha] at hbn hAB hRB
              have HBN := Lib.hid hbn
              have HAB := Lib.hid hAB
              have HRB := Lib.hid hRB
              clear ha hbn hAB hRB q1
              simp only [Bundle.val, Bundle.cells, Line.val, Line.cells] at HAB HRB
              go_wp2_with fail
              refine (HAB.out _ (HT.out.same (Chg.below (by repeat (first | with_reducible exact Chg.refl _ _ | with_reducible exact chg0 | with_reducible refine Chg.drewN ?_ _ | with_reducible refine Chg.drew ?_ | with_reducible refine Chg.alloc ?_ _ | with_reducible refine Chg.setCell ?_ _ _ (by first | (simp; done) | omega | (simp; omega)) | with_reducible refine Chg.setBlock ?_ _ _ (by first | (simp; done) | omega | (simp; omega)) | exact Chg.refl _ _)))).prog.here).mono ?_
              rintro e w4 ⟨rfl, F4, h4, m4⟩
              replace hob := m4.chg.ob (by first | exact hob | simp [go_sem, hob, cl]) NF.out
              replace HT := Lib.hid ((HT.out.same (Chg.below (by repeat (first | with_reducible exact Chg.refl _ _ | with_reducible exact chg0 | with_reducible refine Chg.drewN ?_ _ | with_reducible refine Chg.drew ?_ | with_reducible refine Chg.alloc ?_ _ | with_reducible refine Chg.setCell ?_ _ _ (by first | (simp; done) | omega | (simp; omega)) | with_reducible refine Chg.setBlock ?_ _ _ (by first | (simp; done) | omega | (simp; omega)) | exact Chg.refl _ _)))).toProg h4 m4)
              clear h4 m4 c0 c1 c2 c3 c4 c5 c6 c7 c8 c9 c10 c11 c12 cf cl
              obtain ⟨c0, c1, c2, c3, c4, c5, c6, c7, c8, c9, c10, c11, c12, cf, cl⟩ := Act09.obcells hob
              have hGl := Lib.hid (fun j (hj : G j) => HT.out.ref.lt hj)
              go_wp2_with fail
              refine (HRB.out _ (HT.out.same (Chg.below (by repeat (first | with_reducible exact Chg.refl _ _ | with_reducible exact chg0 | with_reducible refine Chg.drewN ?_ _ | with_reducible refine Chg.drew ?_ | with_reducible refine Chg.alloc ?_ _ | with_reducible refine Chg.setCell ?_ _ _ (by first | (simp; done) | omega | (simp; omega)) | with_reducible refine Chg.setBlock ?_ _ _ (by first | (simp; done) | omega | (simp; omega)) | exact Chg.refl _ _)))).ref).mono ?_
              rintro e w5 ⟨rfl, G5, h5, m5⟩
              have ob5 : ob w5 w4.heap.size = some (.cells #[.int .i64 ax.block, .int .i64 ax.tokens.count, .bool ax.tokens.owner, .bool ax.tokens.has, .int .i64 ax.tokens.data] 53 (0, 0)) := m5.chg.ob (by simp [go_sem]) (fun h => absurd (hGl.out _ h) (Nat.lt_irrefl _))
              obtain ⟨y0, y1, y2, y3, y4, yf⟩ := ob_cells5 ob5
              have yl := ob_lt ob5
              replace HT := Lib.hid ((HT.out.same (Chg.below (by repeat (first | with_reducible exact Chg.refl _ _ | with_reducible exact chg0 | with_reducible refine Chg.drewN ?_ _ | with_reducible refine Chg.drew ?_ | with_reducible refine Chg.alloc ?_ _ | with_reducible refine Chg.setCell ?_ _ _ (by first | (simp; done) | omega | (simp; omega)) | with_reducible refine Chg.setBlock ?_ _ _ (by first | (simp; done) | omega | (simp; omega)) | exact Chg.refl _ _)))).toRef h5 m5)
              clear h5 m5 ob5 c0 c1 c2 c3 c4 c5 c6 c7 c8 c9 c10 c11 c12 cf cl hob hGl
              go_wp2_with fail
              go_meet
              exact ⟨ac, F4, G5, HT.out.same (Chg.below (by repeat (first | with_reducible exact Chg.refl _ _ | with_reducible exact chg0 | with_reducible refine Chg.drewN ?_ _ | with_reducible refine Chg.drew ?_ | with_reducible refine Chg.alloc ?_ _ | with_reducible refine Chg.setCell ?_ _ _ (by first | (simp; done) | omega | (simp; omega)) | with_reducible refine Chg.setBlock ?_ _ _ (by first | (simp; done) | omega | (simp; omega)) | exact Chg.refl _ _))), fun j => by have h1 := HBN.out j; have h2 := HBD.out j; omega⟩
            have q1' : (d.kind == 1) = false := by simpa using q1
            by_cases q2 : d.kind = 2
            · have q2' : (d.kind == 2) = true := by simpa using q2
              have hbn := fun j => take_bound OK.out d.block d.count d.owner d.data j
              have hTK := fun (W : World) (h : CacheAt W p c F) => Take_calls (w := W) d.block d.count d.owner d.data h (by have := HBD.out d.block; omega)
              have hRK := fun (W : World) (h : RefCacheAt W m c G) => RefTake_calls (w := W) d.block d.count d.owner d.data h (by have := HBD.out d.block; omega)
              obtain ⟨⟨ac, ab⟩, ha⟩ : ∃ a, a = c.take d.block d.count d.owner d.data := ⟨_, rfl⟩
              simp only [← ha] at hbn hTK hRK
              have HBN := Lib.hid hbn
              have HTK := Lib.hid hTK
              have HRK := Lib.hid hRK
              have hS := And.intro c1 (And.intro c2 (And.intro c4 c5))
              clear ha hbn hTK hRK q1 q2
              simp only [Bundle.val, Bundle.cells] at HTK HRK
              go_wp2_with fail
              go_region_held3 (fun W => W.cell? ⟨wr.heap.size, 1, none⟩ = some (.int .i64 d.block) ∧ W.cell? ⟨wr.heap.size, 2, none⟩ = some (.int .i64 d.count) ∧ W.cell? ⟨wr.heap.size, 4, none⟩ = some (.bool d.owner) ∧ W.cell? ⟨wr.heap.size, 5, none⟩ = some (.bool d.data)) (first | assumption | (refine keepT (S := fun _ => False) ?_ (fun h => h) hS; (repeat (first | with_reducible exact Chg.refl _ _ | with_reducible exact chg0 | with_reducible refine Chg.drewN ?_ _ | with_reducible refine Chg.drew ?_ | with_reducible refine Chg.alloc ?_ _ | with_reducible refine Chg.setCell ?_ _ _ (by first | (simp; done) | omega | (simp; omega)) | with_reducible refine Chg.setBlock ?_ _ _ (by first | (simp; done) | omega | (simp; omega)) | exact Chg.refl _ _)); done) | fail) (first
                | (go_at_call 33; refine (HTK.out _ (HT.out.same (Chg.below (by repeat (first | with_reducible exact Chg.refl _ _ | with_reducible exact chg0 | with_reducible refine Chg.drewN ?_ _ | with_reducible refine Chg.drew ?_ | with_reducible refine Chg.alloc ?_ _ | with_reducible refine Chg.setCell ?_ _ _ (by first | (simp; done) | omega | (simp; omega)) | with_reducible refine Chg.setBlock ?_ _ _ (by first | (simp; done) | omega | (simp; omega)) | exact Chg.refl _ _)))).prog.here).mono ?_; rintro e w4 ⟨rfl, F4, h4, m4⟩; have hS' := keepT m4.chg NF.out (keepT (S := fun _ => False) (by repeat (first | with_reducible exact Chg.refl _ _ | with_reducible exact chg0 | with_reducible refine Chg.drewN ?_ _ | with_reducible refine Chg.drew ?_ | with_reducible refine Chg.alloc ?_ _ | with_reducible refine Chg.setCell ?_ _ _ (by first | (simp; done) | omega | (simp; omega)) | with_reducible refine Chg.setBlock ?_ _ _ (by first | (simp; done) | omega | (simp; omega)) | exact Chg.refl _ _)) (fun h => h) hS); replace HT := Lib.hid ((HT.out.same (Chg.below (by repeat (first | with_reducible exact Chg.refl _ _ | with_reducible exact chg0 | with_reducible refine Chg.drewN ?_ _ | with_reducible refine Chg.drew ?_ | with_reducible refine Chg.alloc ?_ _ | with_reducible refine Chg.setCell ?_ _ _ (by first | (simp; done) | omega | (simp; omega)) | with_reducible refine Chg.setBlock ?_ _ _ (by first | (simp; done) | omega | (simp; omega)) | exact Chg.refl _ _)))).toProg h4 m4); clear hS; have hS := hS'; clear hS' h4 m4)
                | (go_at_call 34; refine (HRK.out _ (HT.out.same (Chg.below (by repeat (first | with_reducible exact Chg.refl _ _ | with_reducible exact chg0 | with_reducible refine Chg.drewN ?_ _ | with_reducible refine Chg.drew ?_ | with_reducible refine Chg.alloc ?_ _ | with_reducible refine Chg.setCell ?_ _ _ (by first | (simp; done) | omega | (simp; omega)) | with_reducible refine Chg.setBlock ?_ _ _ (by first | (simp; done) | omega | (simp; omega)) | exact Chg.refl _ _)))).ref).mono ?_; rintro e w5 ⟨rfl, G5, h5, m5⟩; have hS' := keepT m5.chg NG.out (keepT (S := fun _ => False) (by repeat (first | with_reducible exact Chg.refl _ _ | with_reducible exact chg0 | with_reducible refine Chg.drewN ?_ _ | with_reducible refine Chg.drew ?_ | with_reducible refine Chg.alloc ?_ _ | with_reducible refine Chg.setCell ?_ _ _ (by first | (simp; done) | omega | (simp; omega)) | with_reducible refine Chg.setBlock ?_ _ _ (by first | (simp; done) | omega | (simp; omega)) | exact Chg.refl _ _)) (fun h => h) hS); replace HT := Lib.hid ((HT.out.same (Chg.below (by repeat (first | with_reducible exact Chg.refl _ _ | with_reducible exact chg0 | with_reducible refine Chg.drewN ?_ _ | with_reducible refine Chg.drew ?_ | with_reducible refine Chg.alloc ?_ _ | with_reducible refine Chg.setCell ?_ _ _ (by first | (simp; done) | omega | (simp; omega)) | with_reducible refine Chg.setBlock ?_ _ _ (by first | (simp; done) | omega | (simp; omega)) | exact Chg.refl _ _)))).toRef h5 m5); clear hS; have hS := hS'; clear hS' h5 m5)
                | fail)
              all_goals (go_wp2_with fail)
              all_goals go_meet
              all_goals exact ⟨ac, F4, G5, HT.out.same (Chg.below (by repeat (first | with_reducible exact Chg.refl _ _ | with_reducible exact chg0 | with_reducible refine Chg.drewN ?_ _ | with_reducible refine Chg.drew ?_ | with_reducible refine Chg.alloc ?_ _ | with_reducible refine Chg.setCell ?_ _ _ (by first | (simp; done) | omega | (simp; omega)) | with_reducible refine Chg.setBlock ?_ _ _ (by first | (simp; done) | omega | (simp; omega)) | exact Chg.refl _ _))), fun j => by have h1 := HBN.out j; have h2 := HBD.out j; omega⟩
            have q2' : (d.kind == 2) = false := by simpa using q2
            by_cases q3 : d.kind = 3
            · have q3' : (d.kind == 3) = true := by simpa using q3
              have hbn := fun j => does_count c d.op d.count j
              have hTK := fun (W : World) (h : CacheAt W p c F) => CacheDo_calls (w := W) d.op d.count h
              have hRK := fun (W : World) (h : RefCacheAt W m c G) => RefCacheDo_calls (w := W) d.op d.count h
              obtain ⟨⟨ac, ax, ao⟩, ha⟩ : ∃ a, a = c.does d.op d.count := ⟨_, rfl⟩
              simp only [← ha] at hbn hTK hRK
              have HBN := Lib.hid hbn
              have HTK := Lib.hid hTK
              have HRK := Lib.hid hRK
              clear ha hbn hTK hRK q1 q2 q3
              simp only [Op.val, Op.cells] at HTK HRK
              go_wp2_with fail
              refine (HTK.out _ (HT.out.same (Chg.below (by repeat (first | with_reducible exact Chg.refl _ _ | with_reducible exact chg0 | with_reducible refine Chg.drewN ?_ _ | with_reducible refine Chg.drew ?_ | with_reducible refine Chg.alloc ?_ _ | with_reducible refine Chg.setCell ?_ _ _ (by first | (simp; done) | omega | (simp; omega)) | with_reducible refine Chg.setBlock ?_ _ _ (by first | (simp; done) | omega | (simp; omega)) | exact Chg.refl _ _)))).prog.here).mono ?_
              rintro e w4 ⟨rfl, F4, h4, m4⟩
              replace hob := m4.chg.ob (by first | exact hob | simp [go_sem, hob, cl]) NF.out
              replace HT := Lib.hid ((HT.out.same (Chg.below (by repeat (first | with_reducible exact Chg.refl _ _ | with_reducible exact chg0 | with_reducible refine Chg.drewN ?_ _ | with_reducible refine Chg.drew ?_ | with_reducible refine Chg.alloc ?_ _ | with_reducible refine Chg.setCell ?_ _ _ (by first | (simp; done) | omega | (simp; omega)) | with_reducible refine Chg.setBlock ?_ _ _ (by first | (simp; done) | omega | (simp; omega)) | exact Chg.refl _ _)))).toProg h4 m4)
              clear h4 m4 c0 c1 c2 c3 c4 c5 c6 c7 c8 c9 c10 c11 c12 cf cl
              obtain ⟨c0, c1, c2, c3, c4, c5, c6, c7, c8, c9, c10, c11, c12, cf, cl⟩ := Act09.obcells hob
              go_wp2_with fail
              refine (HRK.out _ (HT.out.same (Chg.below (by repeat (first | with_reducible exact Chg.refl _ _ | with_reducible exact chg0 | with_reducible refine Chg.drewN ?_ _ | with_reducible refine Chg.drew ?_ | with_reducible refine Chg.alloc ?_ _ | with_reducible refine Chg.setCell ?_ _ _ (by first | (simp; done) | omega | (simp; omega)) | with_reducible refine Chg.setBlock ?_ _ _ (by first | (simp; done) | omega | (simp; omega)) | exact Chg.refl _ _)))).ref).mono ?_
              rintro e w5 ⟨rfl, G5, h5, m5⟩
              replace HT := Lib.hid ((HT.out.same (Chg.below (by repeat (first | with_reducible exact Chg.refl _ _ | with_reducible exact chg0 | with_reducible refine Chg.drewN ?_ _ | with_reducible refine Chg.drew ?_ | with_reducible refine Chg.alloc ?_ _ | with_reducible refine Chg.setCell ?_ _ _ (by first | (simp; done) | omega | (simp; omega)) | with_reducible refine Chg.setBlock ?_ _ _ (by first | (simp; done) | omega | (simp; omega)) | exact Chg.refl _ _)))).toRef h5 m5)
              clear h5 m5 c0 c1 c2 c3 c4 c5 c6 c7 c8 c9 c10 c11 c12 cf cl hob
              go_wp2_with fail
              go_meet
              exact ⟨ac, F4, G5, HT.out.same (Chg.below (by repeat (first | with_reducible exact Chg.refl _ _ | with_reducible exact chg0 | with_reducible refine Chg.drewN ?_ _ | with_reducible refine Chg.drew ?_ | with_reducible refine Chg.alloc ?_ _ | with_reducible refine Chg.setCell ?_ _ _ (by first | (simp; done) | omega | (simp; omega)) | with_reducible refine Chg.setBlock ?_ _ _ (by first | (simp; done) | omega | (simp; omega)) | exact Chg.refl _ _))), fun j => by have h1 := HBN.out j; have h2 := HBD.out j; omega⟩
            have q3' : (d.kind == 3) = false := by simpa using q3
            clear q1 q2 q3
            go_wp2_with fail
            go_meet
            exact ⟨c, F, G, HT.out, fun j => by have h2 := HBD.out j; omega⟩
          case rest =>
            obtain ⟨c', F', G', hT, hBD⟩ := hcut
            have HT' := Lib.hid hT
            have HB' := Lib.hid hBD
            have OK' := Lib.hid hT.prog.here.ok
            clear HT HBD OK hT hBD c0 c1 c2 c3 c4 c5 c6 c7 c8 c9 c10 c11 c12 cf cl hob NF NG hbl
            go_wp2_with fail
            refine (Get_calls ask (HT'.out.same (Chg.below (by repeat (first | with_reducible exact Chg.refl _ _ | with_reducible exact chg0 | with_reducible refine Chg.drewN ?_ _ | with_reducible refine Chg.drew ?_ | with_reducible refine Chg.alloc ?_ _ | with_reducible refine Chg.setCell ?_ _ _ (by first | (simp; done) | omega | (simp; omega)) | with_reducible refine Chg.setBlock ?_ _ _ (by first | (simp; done) | omega | (simp; omega)) | exact Chg.refl _ _)))).prog.here).mono ?_
            rintro e w5 ⟨rfl, hb5⟩
            replace HT' := Lib.hid ((HT'.out.same (Chg.below (by repeat (first | with_reducible exact Chg.refl _ _ | with_reducible exact chg0 | with_reducible refine Chg.drewN ?_ _ | with_reducible refine Chg.drew ?_ | with_reducible refine Chg.alloc ?_ _ | with_reducible refine Chg.setCell ?_ _ _ (by first | (simp; done) | omega | (simp; omega)) | with_reducible refine Chg.setBlock ?_ _ _ (by first | (simp; done) | omega | (simp; omega)) | exact Chg.refl _ _)))).same hb5)
            clear hb5
            obtain ⟨b, hb⟩ : ∃ b, b = c'.tok ask := ⟨_, rfl⟩
            rw [← hb]
            have HB := Lib.hid hb
            clear hb
            simp only [Bundle.val, Bundle.cells]
            go_wp2_with fail
            refine (RefGetC_calls ask (HT'.out.same (Chg.below (by repeat (first | with_reducible exact Chg.refl _ _ | with_reducible exact chg0 | with_reducible refine Chg.drewN ?_ _ | with_reducible refine Chg.drew ?_ | with_reducible refine Chg.alloc ?_ _ | with_reducible refine Chg.setCell ?_ _ _ (by first | (simp; done) | omega | (simp; omega)) | with_reducible refine Chg.setBlock ?_ _ _ (by first | (simp; done) | omega | (simp; omega)) | exact Chg.refl _ _)))).ref).mono ?_
            rintro e w6 ⟨rfl, hb6⟩
            rw [← HB.out]
            replace HT' := Lib.hid ((HT'.out.same (Chg.below (by repeat (first | with_reducible exact Chg.refl _ _ | with_reducible exact chg0 | with_reducible refine Chg.drewN ?_ _ | with_reducible refine Chg.drew ?_ | with_reducible refine Chg.alloc ?_ _ | with_reducible refine Chg.setCell ?_ _ _ (by first | (simp; done) | omega | (simp; omega)) | with_reducible refine Chg.setBlock ?_ _ _ (by first | (simp; done) | omega | (simp; omega)) | exact Chg.refl _ _)))).same hb6)
            clear hb6
            simp only [Bundle.val, Bundle.cells]
            go_wp2_with fail
            refine (All_calls (HT'.out.same (Chg.below (by repeat (first | with_reducible exact Chg.refl _ _ | with_reducible exact chg0 | with_reducible refine Chg.drewN ?_ _ | with_reducible refine Chg.drew ?_ | with_reducible refine Chg.alloc ?_ _ | with_reducible refine Chg.setCell ?_ _ _ (by first | (simp; done) | omega | (simp; omega)) | with_reducible refine Chg.setBlock ?_ _ _ (by first | (simp; done) | omega | (simp; omega)) | exact Chg.refl _ _)))).prog.here).mono ?_
            rintro e w7 ⟨u7, rfl, hu7, _, hb7⟩
            replace HT' := Lib.hid ((HT'.out.same (Chg.below (by repeat (first | with_reducible exact Chg.refl _ _ | with_reducible exact chg0 | with_reducible refine Chg.drewN ?_ _ | with_reducible refine Chg.drew ?_ | with_reducible refine Chg.alloc ?_ _ | with_reducible refine Chg.setCell ?_ _ _ (by first | (simp; done) | omega | (simp; omega)) | with_reducible refine Chg.setBlock ?_ _ _ (by first | (simp; done) | omega | (simp; omega)) | exact Chg.refl _ _)))).same hb7)
            have HU := Lib.hid hu7.slice
            obtain ⟨A7, cap7, e7⟩ := hu7.form
            rw [List.length_map] at e7
            subst e7
            clear hu7 hb7
            go_wp2_with fail
            refine (RefAll_calls (HT'.out.same (Chg.below (by repeat (first | with_reducible exact Chg.refl _ _ | with_reducible exact chg0 | with_reducible refine Chg.drewN ?_ _ | with_reducible refine Chg.drew ?_ | with_reducible refine Chg.alloc ?_ _ | with_reducible refine Chg.setCell ?_ _ _ (by first | (simp; done) | omega | (simp; omega)) | with_reducible refine Chg.setBlock ?_ _ _ (by first | (simp; done) | omega | (simp; omega)) | exact Chg.refl _ _)))).ref).mono ?_
            rintro e w8 ⟨u8, rfl, hu8, _, hb8⟩
            replace HU := Lib.hid (HU.out.below (below_trans (Chg.below (by repeat (first | with_reducible exact Chg.refl _ _ | with_reducible exact chg0 | with_reducible refine Chg.drewN ?_ _ | with_reducible refine Chg.drew ?_ | with_reducible refine Chg.alloc ?_ _ | with_reducible refine Chg.setCell ?_ _ _ (by first | (simp; done) | omega | (simp; omega)) | with_reducible refine Chg.setBlock ?_ _ _ (by first | (simp; done) | omega | (simp; omega)) | exact Chg.refl _ _))) hb8))
            replace HT' := Lib.hid ((HT'.out.same (Chg.below (by repeat (first | with_reducible exact Chg.refl _ _ | with_reducible exact chg0 | with_reducible refine Chg.drewN ?_ _ | with_reducible refine Chg.drew ?_ | with_reducible refine Chg.alloc ?_ _ | with_reducible refine Chg.setCell ?_ _ _ (by first | (simp; done) | omega | (simp; omega)) | with_reducible refine Chg.setBlock ?_ _ _ (by first | (simp; done) | omega | (simp; omega)) | exact Chg.refl _ _)))).same hb8)
            have HV := Lib.hid hu8.slice
            obtain ⟨A8, cap8, e8⟩ := hu8.form
            rw [List.length_map] at e8
            subst e8
            clear hu8 hb8
            go_wp2_with fail
            refine (LineSame_calls c'.all _ _ _ (HU.out.below (Chg.below (by repeat (first | with_reducible exact Chg.refl _ _ | with_reducible exact chg0 | with_reducible refine Chg.drewN ?_ _ | with_reducible refine Chg.drew ?_ | with_reducible refine Chg.alloc ?_ _ | with_reducible refine Chg.setCell ?_ _ _ (by first | (simp; done) | omega | (simp; omega)) | with_reducible refine Chg.setBlock ?_ _ _ (by first | (simp; done) | omega | (simp; omega)) | exact Chg.refl _ _)))) (HV.out.below (Chg.below (by repeat (first | with_reducible exact Chg.refl _ _ | with_reducible exact chg0 | with_reducible refine Chg.drewN ?_ _ | with_reducible refine Chg.drew ?_ | with_reducible refine Chg.alloc ?_ _ | with_reducible refine Chg.setCell ?_ _ _ (by first | (simp; done) | omega | (simp; omega)) | with_reducible refine Chg.setBlock ?_ _ _ (by first | (simp; done) | omega | (simp; omega)) | exact Chg.refl _ _))))).mono ?_
            rintro e w9 ⟨rfl, n9, rfl⟩
            go_wp2_with fail
            go_roundg (l.length - (k + 1))
            case rel => exact ⟨_, k + 1, c', F', G', rfl, by omega, rfl, by go_num, HT'.out.same (Chg.below (by repeat (first | with_reducible exact Chg.refl _ _ | with_reducible exact chg0 | with_reducible refine Chg.drewN ?_ _ | with_reducible refine Chg.drew ?_ | with_reducible refine Chg.alloc ?_ _ | with_reducible refine Chg.setCell ?_ _ _ (by first | (simp; done) | omega | (simp; omega)) | with_reducible refine Chg.setBlock ?_ _ _ (by first | (simp; done) | omega | (simp; omega)) | exact Chg.refl _ _))), fun j => by have := HB'.out j; omega⟩
            case measure => omega
      · go_wp2_with fail
        go_ret
        exact ⟨rfl, below_trans B1.out HT.out.prog.below⟩
set_option maxRecDepth 100000 in
theorem cachePlays_lifted (os : Os) (started : os.Started) (H : Type) (enc : TypeId × Value → H) :
    ReturnsInHanded {} Try.checked os 8 .any (Rows.cachePlaysSpec.pre6 enc Try.prog Try.f8 Rows.cachePlaysRow.domain false) (Rows.cachePlaysSpec.post enc Try.prog Try.f8 false true false false) := by
  refine returnsInHanded_of_change (C := Try.checked) law_own started (by kernel_rfl) Try.func8
    (ChangeSpec.witness6 (enc := enc) (C := Try.checked) false ⟨#[], #[.agg #[.int .i64 0, .int .i64 0], .slice none 0 0, .int .i64 0], []⟩ 8 (by kernel_rfl) (by kernel_rfl) (by kernel_rfl) (by kernel_rfl)) ?_
  intro W base args ds gs before hval0 hW hcnd _
  have hval : ∀ (j : Nat) t v, Try.f8.params[j]? = some t → args[j]? = some v → Value.okWide Try.prog W .any base t v := hval0
  have hW' := hW
  obtain ⟨p, q, hA0, hV, rfl, hfz, hnd⟩ := hW
  have hA : DataW.TrodAll enc Try.prog W 0 (fun _ => true) true Try.f8.params.toList args.toList ds p := hA0
  rw [Try.params8] at hA hval
  obtain ⟨v0, vs0, d0, ds0, p0, q0, hargs, rfl, rfl, h0, r0⟩ := trodAll_cons hA
  obtain ⟨v1, vs1, d1, ds1, p1, q1, rfl, rfl, rfl, h1, r1⟩ := trodAll_cons r0
  obtain ⟨v2, vs2, d2, ds2, p2, q2, rfl, rfl, rfl, h2, r2⟩ := trodAll_cons r1
  obtain ⟨rfl, rfl, rfl⟩ := trodAll_nil r2
  obtain rfl : args = #[v0, v1, v2] := by cases args; simp_all
  obtain ⟨rfl, rfl⟩ := trodVars_none hV
  have k0 := h0
  have lt0 : ∀ x ∈ p0, x.block < W.heap.size := by obtain ⟨m, hm⟩ := k0; exact DataW.trod_lt m _ _ _ hm
  obtain ⟨f0, g0⟩ := h0
  obtain ⟨cs0, rfl, _⟩ := okWide_array Try.underlying22 (hval 0 22 v0 rfl rfl)
  obtain ⟨x0, e0, o0⟩ := Pair.of_trod g0
  obtain rfl : cs0 = x0.cells.toArray := by simp only [Value.cells] at e0; rw [← e0]
  have k1 := h1
  have lt1 : ∀ x ∈ p1, x.block < W.heap.size := by obtain ⟨m, hm⟩ := k1; exact DataW.trod_lt m _ _ _ hm
  obtain ⟨f1, g1⟩ := h1
  obtain ⟨l1, s1, o1⟩ := slice_of_trod (sz := 13) (cells := Act09.cells) (ok := Act09.ok) Try.underlying42 (by kernel_rfl) (by decide) (fun _ => rfl) Act09.of_trod g1 (okWide_slice Try.underlying42 (hval 1 42 v1 rfl rfl))
  have k2 := h2
  have lt2 : ∀ x ∈ p2, x.block < W.heap.size := by obtain ⟨m, hm⟩ := k2; exact DataW.trod_lt m _ _ _ hm
  obtain ⟨f2, g2⟩ := h2
  obtain ⟨x2, e2, o2⟩ := int_of_trod g2
  obtain rfl := one_value (hval 2 3 v2 rfl rfl) Try.underlying3 e2
  clear hA0 hval0
  refine (cachePlays_walk x0 o0 l1 v1 W s1 o1 x2 o2).mono fun e W' ⟨he, bel⟩ => ?_
  subst he
  exact ⟨_, rfl, _, _, _, [], _, [], hW', trodAll_mk1 (shut_bool Try.underlying4 _), (trodAll_cons_mk (Below.trod law_laidOut (by kernel_rfl) (of_decide_eq_true (by kernel_rfl)) k0 bel lt0) (trodAll_cons_mk (Below.trod law_laidOut (by kernel_rfl) (of_decide_eq_true (by kernel_rfl)) k1 bel lt1) (trodAll_cons_mk (Below.trod law_laidOut (by kernel_rfl) (of_decide_eq_true (by kernel_rfl)) k2 bel lt2) trodAll_mk0))), rfl, bel.frame _, fun h => by cases h⟩

theorem cachePlays_holds : Rows.CachePlaysSaid :=
  OpenClaim.holds_of_wide 8 Try.f8 rfl rfl rfl rfl rfl rfl rfl ⟨rfl, rfl, rfl, rfl, rfl⟩ rfl rfl rfl rfl rfl (by kernel_rfl) Try.func8 (by kernel_rfl)
    (of_decide_eq_true (by kernel_rfl)) (by unfold Func.isWrapper; first | (rw [if_pos (by decide +kernel)]; kernel_rfl) | (rw [if_neg (by decide +kernel)]; exact ⟨rfl, rfl⟩))
    (fun os started H enc _ => cachePlays_lifted os started H enc)
end Go.Proofs.Ytocnhmakgbdbfaa
