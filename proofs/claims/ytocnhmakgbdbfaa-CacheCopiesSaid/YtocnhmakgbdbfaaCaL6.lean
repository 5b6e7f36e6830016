/-
  CacheSums: of each block there are as many tokens as came, less those that went; the owner's is there just if it came and hasn't gone. No condition.
-/
import Derived.Test.YtocnhmakgbdbfaaCaL5
namespace Go.Proofs.Ytocnhmakgbdbfaa
open Go.RowKit Go.Sort Go.ChangeShapes Go.WideShapes Go.ChangeAt
open Go.ChangeMaps (setBlock)
set_option linter.unusedVariables false
set_option linter.unusedSimpArgs false

theorem Act09.obcells {W : World} {b : Nat} {d : Act09} (h : ob W b = some (.cells d.cells.toArray 51 (0, 0))) :
    W.cell? ⟨b, 0, none⟩ = some (.int .i64 d.kind) ∧ W.cell? ⟨b, 1, none⟩ = some (.int .i64 d.block) ∧ W.cell? ⟨b, 2, none⟩ = some (.int .i64 d.count) ∧ W.cell? ⟨b, 3, none⟩ = some (.int .i64 d.pinned) ∧ W.cell? ⟨b, 4, none⟩ = some (.bool d.owner) ∧ W.cell? ⟨b, 5, none⟩ = some (.bool d.data) ∧
    W.cell? ⟨b, 6, none⟩ = some (.int .i64 d.tokens.count) ∧ W.cell? ⟨b, 7, none⟩ = some (.bool d.tokens.owner) ∧ W.cell? ⟨b, 8, none⟩ = some (.bool d.tokens.has) ∧ W.cell? ⟨b, 9, none⟩ = some (.int .i64 d.tokens.data) ∧ W.cell? ⟨b, 10, none⟩ = some (.int .i64 d.op.block) ∧ W.cell? ⟨b, 11, none⟩ = some (.bool d.op.write) ∧ W.cell? ⟨b, 12, none⟩ = some (.int .i64 d.op.value) ∧ (∀ i, W.frozen? ⟨b, i, none⟩ = false) ∧ b < W.heap.size :=
  ⟨cell_ob h 0, cell_ob h 1, cell_ob h 2, cell_ob h 3, cell_ob h 4, cell_ob h 5, cell_ob h 6, cell_ob h 7, cell_ob h 8, cell_ob h 9, cell_ob h 10, cell_ob h 11, cell_ob h 12, fun i => frozen_ob h i, ob_lt h⟩

set_option maxHeartbeats 8000000 in
set_option maxRecDepth 100000 in
theorem cacheSums_walk (sizes : Pair) (hs : sizes.ok) (l : List Act09) (v : Value) (w : World) (hsl : SliceIs w 13 v (l.map Act09.cells)) (hok : ∀ d ∈ l, d.ok) (block : Int) (hpn : i64ok block) :
    Calls Try.prog 9 #[sizes.val, v, .int .i64 block] w fun e w' => e = .returned (.bool true) ∧ Below w.heap.size w w' := by
  have HSL := Lib.hid hsl
  obtain ⟨A, cap, rfl, h1, h2, h3⟩ := hsl
  simp only [List.length_map] at h1 h2 h3 HSL ⊢
  have H3 := Lib.hid h3
  clear h3 hok hpn hs
  obtain ⟨s0, s1⟩ := sizes
  simp only [Pair.val, Pair.cells]
  go_enter Try.func9, Try.ntmps9
  go_wp2_with fail
  refine (caAwake_calls _).mono ?_
  rintro e w1 ⟨rfl, hb1'⟩
  go_wp2_with fail
  refine (right_calls l _ _ (HSL.out.below (below_trans (Chg.below (by repeat (first | with_reducible exact Chg.refl _ _ | with_reducible exact chg0 | with_reducible refine Chg.drewN ?_ _ | with_reducible refine Chg.drew ?_ | with_reducible refine Chg.alloc ?_ _ | with_reducible refine Chg.setCell ?_ _ _ (by first | (simp; done) | omega | (simp; omega)) | with_reducible refine Chg.setBlock ?_ _ _ (by first | (simp; done) | omega | (simp; omega)) | exact Chg.refl _ _))) hb1'))).mono ?_
  rintro e w2 ⟨r, rfl, hr, hb2'⟩
  have hb1 : Below w.heap.size w w2 := below_trans (below_trans (Chg.below (by repeat (first | with_reducible exact Chg.refl _ _ | with_reducible exact chg0 | with_reducible refine Chg.drewN ?_ _ | with_reducible refine Chg.drew ?_ | with_reducible refine Chg.alloc ?_ _ | with_reducible refine Chg.setCell ?_ _ _ (by first | (simp; done) | omega | (simp; omega)) | with_reducible refine Chg.setBlock ?_ _ _ (by first | (simp; done) | omega | (simp; omega)) | exact Chg.refl _ _))) hb1') hb2'
  have sz0 := hb1'.size
  have sz1 := hb2'.size
  simp [go_sem] at sz0 sz1
  have siz0 : w2.cell? ⟨w.heap.size, 0, none⟩ = some (.int .i64 s0) := by rw [hb2'.cell (by simp <;> omega), hb1'.cell (by simp <;> omega)]; simp [go_sem]
  have siz1 : w2.cell? ⟨w.heap.size, 1, none⟩ = some (.int .i64 s1) := by rw [hb2'.cell (by simp <;> omega), hb1'.cell (by simp <;> omega)]; simp [go_sem]
  have HR := Lib.hid hr
  clear hb1' hb2' hr
  cases r
  · go_wp2_with fail
    refine (caAwake_calls _).mono ?_
    rintro e w3 ⟨rfl, hb3⟩
    go_wp2_with fail
    go_ret
    exact ⟨rfl, below_trans hb1 hb3⟩
  have B1 := Lib.hid hb1
  obtain ⟨hl200, hfit⟩ := HR.out rfl
  have HFIT := Lib.hid hfit
  clear hfit HR hb1
  go_wp2_with fail
  refine (CacheNew_calls s0 s1 _).mono ?_
  rintro e w3 ⟨p, F1, rfl, hp3, hF1, hb3⟩
  have HT1 := Lib.hid (show Ca0 w2 w3 p (CacheM.new s0 s1) F1 from ⟨hp3, hF1, below_trans (Chg.below (by repeat (first | with_reducible exact Chg.refl _ _ | with_reducible exact chg0 | with_reducible refine Chg.drewN ?_ _ | with_reducible refine Chg.drew ?_ | with_reducible refine Chg.alloc ?_ _ | with_reducible refine Chg.setCell ?_ _ _ (by first | (simp; done) | omega | (simp; omega)) | with_reducible refine Chg.setBlock ?_ _ _ (by first | (simp; done) | omega | (simp; omega)) | exact Chg.refl _ _))) hb3⟩)
  clear hp3 hF1 hb3 siz0 siz1
  go_wp2_with fail
  go_loopg [8, 9, 10, 34] l.length (fun g s8 s9 s10 i wx => ∃ (wr : World) (k : Nat) (c : CacheM) (F : Nat → Prop) (n ow : Int) (owd : Bool), wx = wr ∧ k ≤ l.length ∧ g = l.length - k ∧ i = .int .i64 k ∧ s8 = .int .i64 n ∧ s9 = .int .i64 ow ∧ s10 = .bool owd ∧ Ca0 w2 wr p c F ∧ Sums k c block n ow owd)
  case atStart => exact ⟨_, 0, _, F1, 0, 0, false, rfl, Nat.zero_le _, rfl, rfl, rfl, rfl, rfl, HT1.out, rfl, fun _ => rfl, by omega, by omega, fun j => by simp [CacheM.new, Bundle.none]⟩
  case round =>
    obtain ⟨wr, k, c, F, n, ow, owd, rfl, hk, rfl, rfl, rfl, rfl, rfl, hT, hS⟩ := hrel
    clear HT1
    have HT := Lib.hid hT
    have HS := Lib.hid hS
    have hlo := hS.lo
    have hhi := hS.hi
    have sr := hT.below.size
    have HF0 := Lib.hid (fun j (hj : F j) => hT.here.lt hj)
    have ok := hT.here.ok
    have OK := Lib.hid ok
    clear hT hS ok
    by_cases hlt : k < l.length
    · obtain ⟨q, off, rfl, hrows⟩ := H3.out (by omega)
      have hrow := act09At hrows (below_trans B1.out HT.out.below) hlt
      have hmem : l[k] ∈ l := List.getElem_mem hlt
      obtain ⟨d, hd⟩ : ∃ d, d = l[k] := ⟨_, rfl⟩
      rw [← hd] at hrow hmem
      have hfd := HFIT.out d hmem
      have HFD := Lib.hid hfd
      obtain ⟨c0, c1, c2, c3, c4, c5, c6, c7, c8, c9, c10, c11, c12⟩ := Act09.range hrow
      have hcnt : d.tokens.count ≤ 1048576 := hfd.2
      have hcn0 : 0 ≤ d.tokens.count := hfd.1.pos
      have hn0 : 0 ≤ n := by rw [HS.out.cnt]; exact (OK.out.good block).pos
      have hn1 : n ≤ k * 1048576 := by rw [HS.out.cnt]; exact HS.out.all block
      clear hd hrow hrows hfd hmem
      go_upto_region 11 with fail
      go_cut [39] (fun s39 wx => s39 = .int .i64 d.kind ∧ ob wx wr.heap.size = some (.cells d.cells.toArray 51 (0, 0)) ∧ Chg (fun _ => False) wr wx)
      case first =>
        go_wp2_with fail
        go_meet
        exact ⟨rfl, by simp [go_sem, Act09.cells], (by repeat (first | with_reducible exact Chg.refl _ _ | with_reducible exact chg0 | with_reducible refine Chg.drewN ?_ _ | with_reducible refine Chg.drew ?_ | with_reducible refine Chg.alloc ?_ _ | with_reducible refine Chg.setCell ?_ _ _ (by first | (simp; done) | omega | (simp; omega)) | with_reducible refine Chg.setBlock ?_ _ _ (by first | (simp; done) | omega | (simp; omega)) | exact Chg.refl _ _))⟩
      case rest =>
        obtain ⟨rfl, hob, hch⟩ := hcut
        have hnF : ¬ F wr.heap.size := fun h => absurd (HF0.out _ h) (Nat.lt_irrefl _)
        have HNF := Lib.hid hnF
        replace HT := Lib.hid (HT.out.same hch.below)
        have szc := hch.size
        clear hch c0 c1 c2 c3 c4 c5 c6 c7 c8 c9 c10 c11 c12 hnF HF0
        obtain ⟨c0, c1, c2, c3, c4, c5, c6, c7, c8, c9, c10, c11, c12, cf, cl⟩ := Act09.obcells hob
        go_upto_block 2 with fail
        go_cut [8, 9, 10] (fun s8 s9 s10 wx => ∃ (c' : CacheM) (F' : Nat → Prop) (n' ow' : Int) (owd' : Bool), s8 = .int .i64 n' ∧ s9 = .int .i64 ow' ∧ s10 = .bool owd' ∧ Ca0 w2 wx p c' F' ∧ Sums (k + 1) c' block n' ow' owd')
        case first =>
          by_cases q1 : d.kind = 1
          · have q1' : (d.kind == 1) = true := by simpa using q1
            obtain ⟨ob1, hob1⟩ : ∃ b, b = decide (d.block = block) := ⟨_, rfl⟩
            have q2 : (d.block == block) = ob1 := by rw [hob1]; exact beq_int _ _
            obtain ⟨od, hod⟩ : ∃ b, b = (owd || (ob1 && d.tokens.owner && decide (0 < ow))) := ⟨_, rfl⟩
            have HOD := Lib.hid hod
            have HOB1 := Lib.hid hob1
            clear hod q1 hob1
            go_upto_region 13 with fail
            go_cut [10] (fun s10 wx => s10 = .bool od ∧ wc = wx)
            case first =>
              obtain ⟨tw, htw⟩ : ∃ b, b = d.tokens.owner := ⟨_, rfl⟩
              obtain ⟨ow0, how0⟩ : ∃ b, b = decide (0 < ow) := ⟨_, rfl⟩
              have q3 := how0.symm
              rw [← htw, ← how0] at HOD
              rw [← htw] at c7
              clear htw how0
              cases owd <;> cases ob1 <;> cases tw <;> cases ow0
              all_goals
                go_wp2_with fail
                go_meet
                exact ⟨by rw [HOD.out]; rfl, rfl⟩
            case rest =>
              obtain ⟨rfl, rfl⟩ := hcut
              obtain ⟨n1, hn1'⟩ : ∃ x, x = n + (if d.block = block then d.tokens.count else 0) := ⟨_, rfl⟩
              obtain ⟨o1, ho1'⟩ : ∃ x, x = ow + (if d.block = block then ownerN d.tokens else 0) := ⟨_, rfl⟩
              have N1 := Lib.hid hn1'
              have O1 := Lib.hid ho1'
              have hno := ownerN_bd d.tokens
              have n1b : 0 ≤ n1 ∧ n1 ≤ (k + 1) * 1048576 := by rw [hn1']; split <;> omega
              have o1b : -(2 * k : Int) ≤ o1 ∧ o1 ≤ 2 * k + 1 := by rw [ho1']; split <;> omega
              clear hn1' ho1'
              go_upto_if 61 with fail
              go_cut [8, 9] (fun s8 s9 wx => s8 = .int .i64 n1 ∧ s9 = .int .i64 o1 ∧ Chg (fun _ => False) wc wx)
              case first =>
                cases ob1
                · go_wp2_with fail
                  go_meet
                  have hne := of_decide_eq_false HOB1.out.symm
                  exact ⟨by rw [N1.out, if_neg hne, Int.add_zero], by rw [O1.out, if_neg hne, Int.add_zero], (by repeat (first | with_reducible exact Chg.refl _ _ | with_reducible exact chg0 | with_reducible refine Chg.drewN ?_ _ | with_reducible refine Chg.drew ?_ | with_reducible refine Chg.alloc ?_ _ | with_reducible refine Chg.setCell ?_ _ _ (by first | (simp; done) | omega | (simp; omega)) | with_reducible refine Chg.setBlock ?_ _ _ (by first | (simp; done) | omega | (simp; omega)) | exact Chg.refl _ _))⟩
                · have heq := of_decide_eq_true HOB1.out.symm
                  have HEQ := Lib.hid heq
                  clear heq
                  go_wp2_with fail
                  refine (owner_calls d.tokens _).mono ?_
                  rintro e w5 ⟨rfl, hb5⟩
                  have hc5 : Chg (fun _ => False) wc w5 := Chg.of_below (below_trans (Chg.below (by repeat (first | with_reducible exact Chg.refl _ _ | with_reducible exact chg0 | with_reducible refine Chg.drewN ?_ _ | with_reducible refine Chg.drew ?_ | with_reducible refine Chg.alloc ?_ _ | with_reducible refine Chg.setCell ?_ _ _ (by first | (simp; done) | omega | (simp; omega)) | with_reducible refine Chg.setBlock ?_ _ _ (by first | (simp; done) | omega | (simp; omega)) | exact Chg.refl _ _))) hb5)
                  clear hb5
                  go_wp2_with fail
                  go_meet
                  exact ⟨by rw [N1.out, if_pos HEQ.out], by rw [O1.out, if_pos HEQ.out], hc5⟩
              case rest =>
                obtain ⟨rfl, rfl, hch2⟩ := hcut
                replace hob := hch2.ob hob (fun h => h)
                replace HT := Lib.hid (HT.out.same hch2.below)
                clear c0 c1 c2 c3 c4 c5 c6 c7 c8 c9 c10 c11 c12 cf cl hch2
                obtain ⟨c0, c1, c2, c3, c4, c5, c6, c7, c8, c9, c10, c11, c12, cf, cl⟩ := Act09.obcells hob
                have hod' : od = (owd || (decide (d.block = block) && d.tokens.owner && decide (0 < ow))) := by rw [HOD.out, HOB1.out]
                have hmes := absorb_measure OK.out d.block HFD.out.1 d.pinned block (fun x => x.count) rfl (fun _ => rfl) (fun hc => by omega)
                have hbnd := absorb_bound OK.out d.block HFD.out.1 d.pinned block
                have hsum := fun n' ow' hn how => HS.out.absorb OK.out d.block HFD.out.1 hcnt d.pinned od n' ow' hod' hn how
                have hAB := fun (W : World) (h : CacheAt W p c F) => Absorb_calls (w := W) d.block d.tokens d.pinned h HFD.out.1 (by have := HS.out.all d.block; omega)
                obtain ⟨⟨ac, ax, ao⟩, ha⟩ : ∃ a, a = c.absorb d.block d.tokens d.pinned := ⟨_, rfl⟩
                simp only [← ha] at hmes hbnd hsum hAB
                have hall := HS.out.all block
                have hcn := HS.out.cnt
                have HM := Lib.hid hmes
                have HBN := Lib.hid hbnd
                have HSUM := Lib.hid hsum
                have HAB := Lib.hid hAB
                clear ha hmes hbnd hsum hAB hod' hcn
                simp only [Bundle.val, Bundle.cells, Line.val, Line.cells] at HAB
                go_wp2_with fail
                refine (HAB.out _ (HT.out.same (Chg.below (by repeat (first | with_reducible exact Chg.refl _ _ | with_reducible exact chg0 | with_reducible refine Chg.drewN ?_ _ | with_reducible refine Chg.drew ?_ | with_reducible refine Chg.alloc ?_ _ | with_reducible refine Chg.setCell ?_ _ _ (by first | (simp; done) | omega | (simp; omega)) | with_reducible refine Chg.setBlock ?_ _ _ (by first | (simp; done) | omega | (simp; omega)) | exact Chg.refl _ _)))).here).mono ?_
                rintro e w4 ⟨rfl, F4, h4, m4⟩
                replace HT := Lib.hid ((HT.out.same (Chg.below (by repeat (first | with_reducible exact Chg.refl _ _ | with_reducible exact chg0 | with_reducible refine Chg.drewN ?_ _ | with_reducible refine Chg.drew ?_ | with_reducible refine Chg.alloc ?_ _ | with_reducible refine Chg.setCell ?_ _ _ (by first | (simp; done) | omega | (simp; omega)) | with_reducible refine Chg.setBlock ?_ _ _ (by first | (simp; done) | omega | (simp; omega)) | exact Chg.refl _ _)))).moves h4 m4)
                clear h4 m4 c0 c1 c2 c3 c4 c5 c6 c7 c8 c9 c10 c11 c12 cf cl hob
                cases ao
                · go_wp2_with fail
                  go_meet
                  exact ⟨ac, F4, n1, o1, od, rfl, rfl, rfl, HT.out.same (Chg.below (by repeat (first | with_reducible exact Chg.refl _ _ | with_reducible exact chg0 | with_reducible refine Chg.drewN ?_ _ | with_reducible refine Chg.drew ?_ | with_reducible refine Chg.alloc ?_ _ | with_reducible refine Chg.setCell ?_ _ _ (by first | (simp; done) | omega | (simp; omega)) | with_reducible refine Chg.setBlock ?_ _ _ (by first | (simp; done) | omega | (simp; omega)) | exact Chg.refl _ _))), HSUM.out n1 o1 (by rw [N1.out]; simp) (by rw [O1.out]; simp)⟩
                · by_cases q3 : ax.block = block
                  · have q3' : (ax.block == block) = true := by simpa using q3
                    have Q3 := Lib.hid q3
                    have hm := HM.out
                    simp only [true_and] at hm
                    rw [if_pos q3, HS.out.cnt.symm] at hm
                    have hm2 : (ac.tok block).count = n1 - ax.tokens.count := by rw [N1.out]; exact hm
                    have hp2 := (HT.out.here.ok.good block).pos
                    have hb2 := HBN.out
                    have lo1 : 0 ≤ n1 - ax.tokens.count := by omega
                    have hi1 : n1 - ax.tokens.count ≤ (k + 1) * 1048576 := by omega
                    have hno2 := ownerN_bd ax.tokens
                    clear q3 hm hm2 hp2 hb2
                    go_wp2_with fail
                    refine (owner_calls ax.tokens _).mono ?_
                    rintro e w5 ⟨rfl, hb5⟩
                    replace HT := Lib.hid ((HT.out.same (Chg.below (by repeat (first | with_reducible exact Chg.refl _ _ | with_reducible exact chg0 | with_reducible refine Chg.drewN ?_ _ | with_reducible refine Chg.drew ?_ | with_reducible refine Chg.alloc ?_ _ | with_reducible refine Chg.setCell ?_ _ _ (by first | (simp; done) | omega | (simp; omega)) | with_reducible refine Chg.setBlock ?_ _ _ (by first | (simp; done) | omega | (simp; omega)) | exact Chg.refl _ _)))).same hb5)
                    clear hb5
                    go_wp2_with fail
                    go_meet
                    exact ⟨ac, F4, n1 - ax.tokens.count, o1 - ownerN ax.tokens, od, rfl, rfl, rfl, HT.out.same (Chg.below (by repeat (first | with_reducible exact Chg.refl _ _ | with_reducible exact chg0 | with_reducible refine Chg.drewN ?_ _ | with_reducible refine Chg.drew ?_ | with_reducible refine Chg.alloc ?_ _ | with_reducible refine Chg.setCell ?_ _ _ (by first | (simp; done) | omega | (simp; omega)) | with_reducible refine Chg.setBlock ?_ _ _ (by first | (simp; done) | omega | (simp; omega)) | exact Chg.refl _ _))), HSUM.out _ _ (by rw [N1.out]; simp [Q3.out]) (by rw [O1.out]; simp [Q3.out])⟩
                  · have q3' : (ax.block == block) = false := by simpa using q3
                    have Q3 := Lib.hid q3
                    clear q3
                    go_wp2_with fail
                    go_meet
                    exact ⟨ac, F4, n1, o1, od, rfl, rfl, rfl, HT.out.same (Chg.below (by repeat (first | with_reducible exact Chg.refl _ _ | with_reducible exact chg0 | with_reducible refine Chg.drewN ?_ _ | with_reducible refine Chg.drew ?_ | with_reducible refine Chg.alloc ?_ _ | with_reducible refine Chg.setCell ?_ _ _ (by first | (simp; done) | omega | (simp; omega)) | with_reducible refine Chg.setBlock ?_ _ _ (by first | (simp; done) | omega | (simp; omega)) | exact Chg.refl _ _))), HSUM.out n1 o1 (by rw [N1.out]; simp [Q3.out]) (by rw [O1.out]; simp [Q3.out])⟩
          have q1' : (d.kind == 1) = false := by simpa using q1
          by_cases q2 : d.kind = 2
          · have q2' : (d.kind == 2) = true := by simpa using q2
            have hsum := fun n' ow' hn how => HS.out.take OK.out d.block d.count d.owner d.data n' ow' hn how
            have hTK := fun (W : World) (h : CacheAt W p c F) => Take_calls (w := W) d.block d.count d.owner d.data h (by have := HS.out.all d.block; omega)
            have hsp := Bundle.split_count (OK.out.good d.block) d.count d.owner d.data
            have hsg := Bundle.split_good (OK.out.good d.block) d.count d.owner d.data
            have hall := HS.out.all d.block
            have ht1 : (c.take d.block d.count d.owner d.data).2.count = ((c.tok d.block).split d.count d.owner d.data).1.count := rfl
            have hp1 := hsg.1.pos
            have hp2 := hsg.2.pos
            have hb1 : 0 ≤ (c.take d.block d.count d.owner d.data).2.count ∧ (c.take d.block d.count d.owner d.data).2.count ≤ (c.tok d.block).count := by rw [ht1]; omega
            have hcn := HS.out.cnt
            obtain ⟨⟨ac, ab⟩, ha⟩ : ∃ a, a = c.take d.block d.count d.owner d.data := ⟨_, rfl⟩
            simp only [← ha] at hsum hTK hb1
            have hno2 := ownerN_bd ab
            have HSUM := Lib.hid hsum
            have HTK := Lib.hid hTK
            have HCN := Lib.hid hcn
            clear ha hsum hTK hsp hsg ht1 hp1 hp2 q1 q2 hcn
            simp only [Bundle.val, Bundle.cells] at HTK
            go_wp2_with fail
            refine (HTK.out _ (HT.out.same (Chg.below (by repeat (first | with_reducible exact Chg.refl _ _ | with_reducible exact chg0 | with_reducible refine Chg.drewN ?_ _ | with_reducible refine Chg.drew ?_ | with_reducible refine Chg.alloc ?_ _ | with_reducible refine Chg.setCell ?_ _ _ (by first | (simp; done) | omega | (simp; omega)) | with_reducible refine Chg.setBlock ?_ _ _ (by first | (simp; done) | omega | (simp; omega)) | exact Chg.refl _ _)))).here).mono ?_
            rintro e w4 ⟨rfl, F4, h4, m4⟩
            replace hob := m4.chg.ob (by first | exact hob | simp [go_sem, hob, cl]) HNF.out
            replace HT := Lib.hid ((HT.out.same (Chg.below (by repeat (first | with_reducible exact Chg.refl _ _ | with_reducible exact chg0 | with_reducible refine Chg.drewN ?_ _ | with_reducible refine Chg.drew ?_ | with_reducible refine Chg.alloc ?_ _ | with_reducible refine Chg.setCell ?_ _ _ (by first | (simp; done) | omega | (simp; omega)) | with_reducible refine Chg.setBlock ?_ _ _ (by first | (simp; done) | omega | (simp; omega)) | exact Chg.refl _ _)))).moves h4 m4)
            clear h4 m4 c0 c1 c2 c3 c4 c5 c6 c7 c8 c9 c10 c11 c12 cf cl
            obtain ⟨c0, c1, c2, c3, c4, c5, c6, c7, c8, c9, c10, c11, c12, cf, cl⟩ := Act09.obcells hob
            by_cases q3 : d.block = block
            · have q3' : (d.block == block) = true := by simpa using q3
              have hlo1 : 0 ≤ n - ab.count := by rw [HCN.out, ← q3]; omega
              have Q3 := Lib.hid q3
              clear q3
              go_wp2_with fail
              refine (owner_calls ab _).mono ?_
              rintro e w5 ⟨rfl, hb5⟩
              replace HT := Lib.hid ((HT.out.same (Chg.below (by repeat (first | with_reducible exact Chg.refl _ _ | with_reducible exact chg0 | with_reducible refine Chg.drewN ?_ _ | with_reducible refine Chg.drew ?_ | with_reducible refine Chg.alloc ?_ _ | with_reducible refine Chg.setCell ?_ _ _ (by first | (simp; done) | omega | (simp; omega)) | with_reducible refine Chg.setBlock ?_ _ _ (by first | (simp; done) | omega | (simp; omega)) | exact Chg.refl _ _)))).same hb5)
              clear hb5
              go_wp2_with fail
              go_meet
              exact ⟨ac, F4, n - ab.count, ow - ownerN ab, owd, rfl, rfl, rfl, HT.out.same (Chg.below (by repeat (first | with_reducible exact Chg.refl _ _ | with_reducible exact chg0 | with_reducible refine Chg.drewN ?_ _ | with_reducible refine Chg.drew ?_ | with_reducible refine Chg.alloc ?_ _ | with_reducible refine Chg.setCell ?_ _ _ (by first | (simp; done) | omega | (simp; omega)) | with_reducible refine Chg.setBlock ?_ _ _ (by first | (simp; done) | omega | (simp; omega)) | exact Chg.refl _ _))), HSUM.out _ _ (by rw [if_pos Q3.out]) (by rw [if_pos Q3.out])⟩
            · have q3' : (d.block == block) = false := by simpa using q3
              have Q3 := Lib.hid q3
              clear q3
              go_wp2_with fail
              go_meet
              exact ⟨ac, F4, n, ow, owd, rfl, rfl, rfl, HT.out.same (Chg.below (by repeat (first | with_reducible exact Chg.refl _ _ | with_reducible exact chg0 | with_reducible refine Chg.drewN ?_ _ | with_reducible refine Chg.drew ?_ | with_reducible refine Chg.alloc ?_ _ | with_reducible refine Chg.setCell ?_ _ _ (by first | (simp; done) | omega | (simp; omega)) | with_reducible refine Chg.setBlock ?_ _ _ (by first | (simp; done) | omega | (simp; omega)) | exact Chg.refl _ _))), HSUM.out _ _ (by rw [if_neg Q3.out]; simp) (by rw [if_neg Q3.out]; simp)⟩
          have q2' : (d.kind == 2) = false := by simpa using q2
          by_cases q3 : d.kind = 3
          · have q3' : (d.kind == 3) = true := by simpa using q3
            clear q1 q2 q3
            go_wp2_with fail
            refine (CacheDo_calls d.op d.count (HT.out.same (Chg.below (by repeat (first | with_reducible exact Chg.refl _ _ | with_reducible exact chg0 | with_reducible refine Chg.drewN ?_ _ | with_reducible refine Chg.drew ?_ | with_reducible refine Chg.alloc ?_ _ | with_reducible refine Chg.setCell ?_ _ _ (by first | (simp; done) | omega | (simp; omega)) | with_reducible refine Chg.setBlock ?_ _ _ (by first | (simp; done) | omega | (simp; omega)) | exact Chg.refl _ _)))).here).mono ?_
            rintro e w4 ⟨rfl, F4, h4, m4⟩
            replace HT := Lib.hid ((HT.out.same (Chg.below (by repeat (first | with_reducible exact Chg.refl _ _ | with_reducible exact chg0 | with_reducible refine Chg.drewN ?_ _ | with_reducible refine Chg.drew ?_ | with_reducible refine Chg.alloc ?_ _ | with_reducible refine Chg.setCell ?_ _ _ (by first | (simp; done) | omega | (simp; omega)) | with_reducible refine Chg.setBlock ?_ _ _ (by first | (simp; done) | omega | (simp; omega)) | exact Chg.refl _ _)))).moves h4 m4)
            clear h4 m4 c0 c1 c2 c3 c4 c5 c6 c7 c8 c9 c10 c11 c12 cf cl hob
            go_wp2_with fail
            go_meet
            exact ⟨_, F4, n, ow, owd, rfl, rfl, rfl, HT.out.same (Chg.below (by repeat (first | with_reducible exact Chg.refl _ _ | with_reducible exact chg0 | with_reducible refine Chg.drewN ?_ _ | with_reducible refine Chg.drew ?_ | with_reducible refine Chg.alloc ?_ _ | with_reducible refine Chg.setCell ?_ _ _ (by first | (simp; done) | omega | (simp; omega)) | with_reducible refine Chg.setBlock ?_ _ _ (by first | (simp; done) | omega | (simp; omega)) | exact Chg.refl _ _))), HS.out.does d.op d.count⟩
          have q3' : (d.kind == 3) = false := by simpa using q3
          clear q1 q2 q3
          go_wp2_with fail
          go_meet
          exact ⟨c, F, n, ow, owd, rfl, rfl, rfl, HT.out.same (Chg.below (by repeat (first | with_reducible exact Chg.refl _ _ | with_reducible exact chg0 | with_reducible refine Chg.drewN ?_ _ | with_reducible refine Chg.drew ?_ | with_reducible refine Chg.alloc ?_ _ | with_reducible refine Chg.setCell ?_ _ _ (by first | (simp; done) | omega | (simp; omega)) | with_reducible refine Chg.setBlock ?_ _ _ (by first | (simp; done) | omega | (simp; omega)) | exact Chg.refl _ _))), HS.out.same⟩
        case rest =>
          obtain ⟨c', F', n', ow', owd', rfl, rfl, rfl, hT, hS⟩ := hcut
          obtain ⟨b, hb⟩ : ∃ b, b = c'.tok block := ⟨_, rfl⟩
          obtain rfl : n' = b.count := by rw [hb]; exact hS.cnt
          have hoo := hS.own
          rw [← hb] at hoo
          have HOO := Lib.hid hoo
          have HB := Lib.hid hb
          have HT' := Lib.hid hT
          have HS' := Lib.hid hS
          clear HT HS hT hS hb hoo c0 c1 c2 c3 c4 c5 c6 c7 c8 c9 c10 c11 c12 cf cl hob
          go_wp2_with fail
          refine (Get_calls block (HT'.out.same (Chg.below (by repeat (first | with_reducible exact Chg.refl _ _ | with_reducible exact chg0 | with_reducible refine Chg.drewN ?_ _ | with_reducible refine Chg.drew ?_ | with_reducible refine Chg.alloc ?_ _ | with_reducible refine Chg.setCell ?_ _ _ (by first | (simp; done) | omega | (simp; omega)) | with_reducible refine Chg.setBlock ?_ _ _ (by first | (simp; done) | omega | (simp; omega)) | exact Chg.refl _ _)))).here).mono ?_
          rintro e w5 ⟨rfl, hb5⟩
          rw [← HB.out]
          replace HT' := Lib.hid ((HT'.out.same (Chg.below (by repeat (first | with_reducible exact Chg.refl _ _ | with_reducible exact chg0 | with_reducible refine Chg.drewN ?_ _ | with_reducible refine Chg.drew ?_ | with_reducible refine Chg.alloc ?_ _ | with_reducible refine Chg.setCell ?_ _ _ (by first | (simp; done) | omega | (simp; omega)) | with_reducible refine Chg.setBlock ?_ _ _ (by first | (simp; done) | omega | (simp; omega)) | exact Chg.refl _ _)))).same hb5)
          clear hb5
          obtain ⟨bc, bo, bh, bd⟩ := b
          simp only [Bundle.val, Bundle.cells]
          have b1 : (bc != bc) = false := by simp
          cases owd'
          · have h0 := HOO.out rfl
            cases bo
            · obtain rfl : ow' = 0 := h0
              go_wp2_with fail
              go_roundg (l.length - (k + 1))
              case rel => exact ⟨_, k + 1, c', F', _, _, _, rfl, by omega, rfl, by go_num, rfl, rfl, rfl, HT'.out.same (Chg.below (by repeat (first | with_reducible exact Chg.refl _ _ | with_reducible exact chg0 | with_reducible refine Chg.drewN ?_ _ | with_reducible refine Chg.drew ?_ | with_reducible refine Chg.alloc ?_ _ | with_reducible refine Chg.setCell ?_ _ _ (by first | (simp; done) | omega | (simp; omega)) | with_reducible refine Chg.setBlock ?_ _ _ (by first | (simp; done) | omega | (simp; omega)) | exact Chg.refl _ _))), HS'.out⟩
              case measure => omega
            · obtain rfl : ow' = 1 := h0
              go_wp2_with fail
              go_roundg (l.length - (k + 1))
              case rel => exact ⟨_, k + 1, c', F', _, _, _, rfl, by omega, rfl, by go_num, rfl, rfl, rfl, HT'.out.same (Chg.below (by repeat (first | with_reducible exact Chg.refl _ _ | with_reducible exact chg0 | with_reducible refine Chg.drewN ?_ _ | with_reducible refine Chg.drew ?_ | with_reducible refine Chg.alloc ?_ _ | with_reducible refine Chg.setCell ?_ _ _ (by first | (simp; done) | omega | (simp; omega)) | with_reducible refine Chg.setBlock ?_ _ _ (by first | (simp; done) | omega | (simp; omega)) | exact Chg.refl _ _))), HS'.out⟩
              case measure => omega
          · go_wp2_with fail
            go_roundg (l.length - (k + 1))
            case rel => exact ⟨_, k + 1, c', F', _, _, _, rfl, by omega, rfl, by go_num, rfl, rfl, rfl, HT'.out.same (Chg.below (by repeat (first | with_reducible exact Chg.refl _ _ | with_reducible exact chg0 | with_reducible refine Chg.drewN ?_ _ | with_reducible refine Chg.drew ?_ | with_reducible refine Chg.alloc ?_ _ | with_reducible refine Chg.setCell ?_ _ _ (by first | (simp; done) | omega | (simp; omega)) | with_reducible refine Chg.setBlock ?_ _ _ (by first | (simp; done) | omega | (simp; omega)) | exact Chg.refl _ _))), HS'.out⟩
            case measure => omega
    · go_wp2_with fail
      go_ret
      exact ⟨rfl, below_trans B1.out HT.out.below⟩
set_option maxRecDepth 100000 in
theorem cacheSums_lifted (os : Os) (started : os.Started) (H : Type) (enc : TypeId × Value → H) :
    ReturnsInHanded {} Try.checked os 9 .any (Rows.cacheSumsSpec.pre6 enc Try.prog Try.f9 Rows.cacheSumsRow.domain false) (Rows.cacheSumsSpec.post enc Try.prog Try.f9 false true false false) := by
  refine returnsInHanded_of_change (C := Try.checked) law_own started (by kernel_rfl) Try.func9
    (ChangeSpec.witness6 (enc := enc) (C := Try.checked) false ⟨#[], #[.agg #[.int .i64 0, .int .i64 0], .slice none 0 0, .int .i64 0], []⟩ 8 (by kernel_rfl) (by kernel_rfl) (by kernel_rfl) (by kernel_rfl)) ?_
  intro W base args ds gs before hval0 hW hcnd _
  have hval : ∀ (j : Nat) t v, Try.f9.params[j]? = some t → args[j]? = some v → Value.okWide Try.prog W .any base t v := hval0
  have hW' := hW
  obtain ⟨p, q, hA0, hV, rfl, hfz, hnd⟩ := hW
  have hA : DataW.TrodAll enc Try.prog W 0 (fun _ => true) true Try.f9.params.toList args.toList ds p := hA0
  rw [Try.params9] at hA hval
  obtain ⟨v0, vs0, d0, ds0, p0, q0, hargs, rfl, rfl, h0, r0⟩ := trodAll_cons hA
  obtain ⟨v1, vs1, d1, ds1, p1, q1, rfl, rfl, rfl, h1, r1⟩ := trodAll_cons r0
  obtain ⟨v2, vs2, d2, ds2, p2, q2, rfl, rfl, rfl, h2, r2⟩ := trodAll_cons r1
  obtain ⟨rfl, rfl, rfl⟩ := trodAll_nil r2
  obtain rfl : args = #[v0, v1, v2] := by cases args; simp_all
  obtain ⟨rfl, rfl⟩ := trodVars_none hV
  have k0 := h0
  have lt0 : ∀ x ∈ p0, x.block < W.heap.size := by obtain ⟨m, hm⟩ := k0; exact DataW.trod_lt m _ _ _ hm
  obtain ⟨f0, g0⟩ := h0
  obtain ⟨cs0, rfl, _⟩ := okWide_array Try.underlying22 (hval 0 22 v0 rfl rfl)
  obtain ⟨x0, e0, o0⟩ := Pair.of_trod g0
  obtain rfl : cs0 = x0.cells.toArray := by simp only [Value.cells] at e0; rw [← e0]
  have k1 := h1
  have lt1 : ∀ x ∈ p1, x.block < W.heap.size := by obtain ⟨m, hm⟩ := k1; exact DataW.trod_lt m _ _ _ hm
  obtain ⟨f1, g1⟩ := h1
  obtain ⟨l1, s1, o1⟩ := slice_of_trod (sz := 13) (cells := Act09.cells) (ok := Act09.ok) Try.underlying42 (by kernel_rfl) (by decide) (fun _ => rfl) Act09.of_trod g1 (okWide_slice Try.underlying42 (hval 1 42 v1 rfl rfl))
  have k2 := h2
  have lt2 : ∀ x ∈ p2, x.block < W.heap.size := by obtain ⟨m, hm⟩ := k2; exact DataW.trod_lt m _ _ _ hm
  obtain ⟨f2, g2⟩ := h2
  obtain ⟨x2, e2, o2⟩ := int_of_trod g2
  obtain rfl := one_value (hval 2 3 v2 rfl rfl) Try.underlying3 e2
  clear hA0 hval0
  refine (cacheSums_walk x0 o0 l1 v1 W s1 o1 x2 o2).mono fun e W' ⟨he, bel⟩ => ?_
  subst he
  exact ⟨_, rfl, _, _, _, [], _, [], hW', trodAll_mk1 (shut_bool Try.underlying4 _), (trodAll_cons_mk (Below.trod law_laidOut (by kernel_rfl) (of_decide_eq_true (by kernel_rfl)) k0 bel lt0) (trodAll_cons_mk (Below.trod law_laidOut (by kernel_rfl) (of_decide_eq_true (by kernel_rfl)) k1 bel lt1) (trodAll_cons_mk (Below.trod law_laidOut (by kernel_rfl) (of_decide_eq_true (by kernel_rfl)) k2 bel lt2) trodAll_mk0))), rfl, bel.frame _, fun h => by cases h⟩

theorem cacheSums_holds : Rows.CacheSumsSaid :=
  OpenClaim.holds_of_wide 9 Try.f9 rfl rfl rfl rfl rfl rfl rfl ⟨rfl, rfl, rfl, rfl, rfl⟩ rfl rfl rfl rfl rfl (by kernel_rfl) Try.func9 (by kernel_rfl)
    (of_decide_eq_true (by kernel_rfl)) (by unfold Func.isWrapper; first | (rw [if_pos (by decide +kernel)]; kernel_rfl) | (rw [if_neg (by decide +kernel)]; exact ⟨rfl, rfl⟩))
    (fun os started H enc _ => cacheSums_lifted os started H enc)
end Go.Proofs.Ytocnhmakgbdbfaa
