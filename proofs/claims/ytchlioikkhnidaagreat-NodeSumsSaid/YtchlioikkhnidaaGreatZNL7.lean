/-
  NodeSums: of each block as many tokens are at a node as came, less those that went; and all that it sends may be on its way, if what came may be. No condition.
-/
import Derived.Test.YtchlioikkhnidaaGreatMN15
import Derived.Test.YtchlioikkhnidaaGreatMN17
import Derived.Test.YtchlioikkhnidaaGreatMN16
set_option linter.unusedVariables false
set_option linter.unusedSimpArgs false
namespace Go.Proofs.YtchlioikkhnidaaGreat
open Go.RowKit Go.Sort Go.ChangeShapes Go.WideShapes Go.ChangeAt
open Go.ChangeMaps (setBlock)
set_option linter.unusedVariables false
set_option linter.unusedSimpArgs false
theorem tyIIn : MapTy Tryz.prog 62 3 3 (.int .i64 0) := ⟨Tryz.underlying62, Tryz.underlying3, fun _ => by kernel_rfl⟩
theorem NdA.sub {w wr : World} {a : NAddr} {n : Node} {F : Nat → Prop} {As Bs : List (Nat × Obj)} (h : NdA w wr a n F As) (hs : ∀ p ∈ Bs, p ∈ As) : NdA w wr a n F Bs := ⟨h.node, fun p hp => h.aside p (hs p hp)⟩
theorem IntMap.same {f f' : Int → Int} {g : Int → Option Value} (h : IntMap f g) (e : ∀ j, f' j = f j) : IntMap f' g := fun k => by rw [e k]; exact h k
def lineO (x : Line) : Obj := .cells x.cells.toArray 53 (0, 0)
theorem placeLines (v1 v2 : Value) (b1 b2 : Bool) (i1 i2 : Int) (w : World) : (Instr.field 50 (.agg #[v1, .bool b1, .int .i64 i1, .bool b2, .int .i64 i2, v2]) 0).run Tryz.prog w = .ok v1 w := by kernel_rfl
theorem line_one (x : Line) : x.cells.toArray.all (·.oneCell') = true := all_oneCell_toArray (by intro v hv; simp only [Line.cells, List.mem_cons, List.not_mem_nil, or_false] at hv; rcases hv with rfl | rfl | rfl | rfl | rfl <;> rfl)
set_option maxHeartbeats 8000000 in
set_option maxRecDepth 20000 in
theorem nodeSums_walk (c : Config) (hc : c.ok) (id : Int) (hi : i64ok id) (l : List Act15) (v : Value) (w : World) (hsl : SliceIs w 18 v (l.map Act15.cells)) (hok : ∀ d ∈ l, d.ok) :
    Calls Tryz.prog 6 #[c.val, .int .i64 id, v] w fun e w' => e = .returned (.bool true) ∧ Below w.heap.size w w' := by
  have HSL := Lib.hid hsl
  obtain ⟨A, cap, rfl, h1, h2, h3⟩ := hsl
  simp only [List.length_map] at h1 h2 h3 HSL ⊢
  have H3 := Lib.hid h3
  clear h3 hok hc
  by_cases hf : c.Fine ∧ (0 ≤ id ∧ id < c.nodes) ∧ l.length ≤ 200
  · have HF := Lib.hid hf.1
    have HID := Lib.hid hf.2.1
    have hlen := hf.2.2
    have HMY := Lib.hid (fun V => made15_yes c id A l.length cap V hf.1 hf.2.1 hf.2.2)
    simp only [Config.val, Config.cells] at HMY ⊢
    clear hf
    go_enter Tryz.func6, Tryz.ntmps6
    go_wp2_with fail
    refine (HMY.out _).mono ?_
    rintro e w1 ⟨a, FC, m, wm, rfl, hN, _, _, _, _⟩
    have oC : cfgOb w1 w.heap.size c := ob_step hN.below (by simp [go_sem])
    have HLOW := Lib.hid (show ∀ j, nFp a FC j → w.heap.size + 1 ≤ j from fun j hj => by have := hN.low j hj; simp at this; omega)
    have HN1 := Lib.hid (show NdA w w1 a (Node.new c id) FC [(w.heap.size, cfgO c)] from (NdA.nil (hN.base (Chg.below (by repeat (first | with_reducible exact Chg.refl _ _ | with_reducible exact chg0 | with_reducible refine Chg.drewN ?_ _ | with_reducible refine Chg.drew ?_ | with_reducible refine Chg.alloc ?_ _ | with_reducible refine Chg.setCell ?_ _ _ (by first | (simp; done) | omega | (simp; omega)) | with_reducible refine Chg.setBlock ?_ _ _ (by first | (simp; done) | omega | (simp; omega)) | exact Chg.refl _ _))))).cons oC (fun hf => by have := HLOW.out _ hf; omega))
    clear hN oC HMY
    go_wp2_with fail
    refine (ndAwake_calls _).mono ?_
    rintro e w2 ⟨rfl, hb2⟩
    have HN2 := Lib.hid (HN1.out.same (below_trans (Chg.below (by repeat (first | with_reducible exact Chg.refl _ _ | with_reducible exact chg0 | with_reducible refine Chg.drewN ?_ _ | with_reducible refine Chg.drew ?_ | with_reducible refine Chg.alloc ?_ _ | with_reducible refine Chg.setCell ?_ _ _ (by first | (simp; done) | omega | (simp; omega)) | with_reducible refine Chg.setBlock ?_ _ _ (by first | (simp; done) | omega | (simp; omega)) | exact Chg.refl _ _))) hb2))
    clear hb2 HN1 HLOW
    have hmm := @run_makeMap Tryz.prog
    have tb0 : w2.heap.size = w2.heap.size := rfl
    go_wp2_with fail
    have HT0 := Lib.hid (show NdA w (w2.alloc (.map #[] 0)) a (Node.new c id) FC [(w2.heap.size, .map #[] 0), (w.heap.size, cfgO c)] from HN2.out.add (Chg.below (by repeat (first | with_reducible exact Chg.refl _ _ | with_reducible exact chg0 | with_reducible refine Chg.drewN ?_ _ | with_reducible refine Chg.drew ?_ | with_reducible refine Chg.alloc ?_ _ | with_reducible refine Chg.setCell ?_ _ _ (by first | (simp; done) | omega | (simp; omega)) | with_reducible refine Chg.setBlock ?_ _ _ (by first | (simp; done) | omega | (simp; omega)) | exact Chg.refl _ _))) (by simp [go_sem]) (Nat.le_refl _))
    obtain ⟨tb, htb⟩ : ∃ tb, tb = w2.heap.size := ⟨_, rfl⟩
    have hwt : w.heap.size < tb := by have h1 := HN2.out.head.1; have h2 := ob_lt h1; omega
    obtain ⟨w3, hw3⟩ : ∃ w3, w3 = w2.alloc (.map #[] 0) := ⟨_, rfl⟩
    rw [← htb, ← hw3] at HT0
    simp only [← htb, ← hw3]
    clear htb hw3 HN2 tb0
    go_loopg [38] l.length (fun g i wx => ∃ (wr : World) (k : Nat) (n : Node) (F : Nat → Prop) (th : Int → Int) (oT : Obj) (f : Int → Option Value), wx = wr ∧ k ≤ l.length ∧ g = l.length - k ∧ i = .int .i64 k ∧
      NdA w wr a n F [(tb, oT), (w.heap.size, cfgO c)] ∧ SumInv c id n k ∧ MapObj oT f ∧ IntMap th f ∧ ∀ b, th b = (n.cache.tok b).count)
    case atStart => exact ⟨_, 0, _, _, fun _ => 0, _, _, rfl, Nat.zero_le _, rfl, rfl, HT0.out, SumInv.new HF.out HID.out, MapObj.empty 0, IntMap.empty, fun b => rfl⟩
    case round =>
      obtain ⟨wr, k, n, F, th, oT, f, rfl, hk, rfl, rfl, hN, hR, hO, hB, hT⟩ := hrel
      clear HT0
      have HN := Lib.hid hN
      have HR := Lib.hid hR
      have HO := Lib.hid hO
      have HB := Lib.hid hB
      have HT := Lib.hid hT
      clear hN hR hO hB hT
      by_cases hlt : k < l.length
      · obtain ⟨q, off, rfl, hrows⟩ := H3.out (by omega)
        have hrow := act15At hrows HN.out.node.below hlt
        generalize l[k] = d at hrow
        have HROW := Lib.hid hrow
        clear hrow hrows
        go_upto_region 7 with fail
        go_cut [12] (fun s12 wx => s12 = .pointer (some ⟨wr.heap.size, 0, none⟩) ∧ ob wx wr.heap.size = some (actO d) ∧ Below wr.heap.size wr wx)
        case first =>
          have h18 : d.cells.toArray.size = 18 := rfl
          have hone : d.cells.toArray.all (·.oneCell') = true := act15_one d
          have HFIN := Lib.hid (fun W : World => show ob (W.alloc (.cells d.cells.toArray 46)) W.heap.size = some (actO d) from ob_alloc_at _ _)
          have HR := HROW
          generalize d.cells = CS at HR h18 hone HFIN
          go_wp2_with (first | (refine wpList_load_row rfl 46 _ rfl q (off + k * 18) rfl CS HR.out (by kernel_rfl) (Eq.trans (by kernel_rfl : _ = some 18) (by simpa using h18.symm)) ?_) | (refine wpList_store_new rfl 46 _ _ rfl _ CS.toArray rfl rfl (Eq.trans (by kernel_rfl : _ = some 18) (by simpa using h18.symm)) (by simpa using h18.symm) hone ?_))
          go_meet
          exact ⟨rfl, HFIN.out _, Chg.below (by repeat (first | with_reducible exact Chg.refl _ _ | with_reducible exact chg0 | with_reducible refine Chg.drewN ?_ _ | with_reducible refine Chg.drew ?_ | with_reducible refine Chg.alloc ?_ _ | with_reducible refine Chg.setCell ?_ _ _ (by first | (simp; done) | omega | (simp; omega)) | with_reducible refine Chg.setBlock ?_ _ _ (by first | (simp; done) | omega | (simp; omega)) | exact Chg.refl _ _))⟩
        case rest =>
        obtain ⟨rfl, hA, hbA⟩ := hcut
        have HN2 := Lib.hid (HN.out.add hbA hA (Nat.le_refl _))
        obtain ⟨b1, hb1⟩ : ∃ b1, b1 = wr.heap.size := ⟨_, rfl⟩
        have hwb : w.heap.size < b1 := by have h1 := HN.out.head.1; have h2 := ob_lt h1; omega
        have htb1 : tb < b1 := by have h1 := HN.out.head.1; have h2 := ob_lt h1; omega
        rw [← hb1] at HN2
        simp only [← hb1]
        clear hA hbA HROW HN hb1
        obtain ⟨_, _, _, x0⟩ := actO_range HN2.out.head.1
        have lA := ob_lt HN2.out.head.1
        go_upto_block 2 with fail
        have HN3 := Lib.hid (show NdA w (wc.alloc (.cells #[.slice none 0 0, .slice none 0 0] 35)) a n F [(wc.heap.size, outO (.slice none 0 0) (.slice none 0 0)), (b1, actO d), (tb, oT), (w.heap.size, cfgO c)] from HN2.out.add (Chg.below (by repeat (first | with_reducible exact Chg.refl _ _ | with_reducible exact chg0 | with_reducible refine Chg.drewN ?_ _ | with_reducible refine Chg.drew ?_ | with_reducible refine Chg.alloc ?_ _ | with_reducible refine Chg.setCell ?_ _ _ (by first | (simp; done) | omega | (simp; omega)) | with_reducible refine Chg.setBlock ?_ _ _ (by first | (simp; done) | omega | (simp; omega)) | exact Chg.refl _ _))) (by simp [go_sem, outO]) (Nat.le_refl _))
        obtain ⟨b2, hb2⟩ : ∃ b2, b2 = wc.heap.size := ⟨_, rfl⟩
        obtain ⟨V, hV⟩ : ∃ V, V = wc.alloc (.cells #[.slice none 0 0, .slice none 0 0] 35) := ⟨_, rfl⟩
        have hb12 : b1 < b2 := by omega
        rw [← hb2, ← hV] at HN3
        simp only [← hb2, ← hV]
        clear x0 lA HN2 hb2 hV
        go_cut [] (fun wx => ∃ n' F' v1 v2 L th oT f, NdA w wx a n' F' [(tb, oT), (b2, outO v1 v2), (w.heap.size, cfgO c)] ∧ Own0 w wx 44 11 v1 (L.map Letter.cells) ∧ SumInv c id n' (k + 1) ∧ MapObj oT f ∧ IntMap th f ∧ SumsAt n' th L ∧ ∀ j, th j ≤ c.tokens)
        case first =>
          obtain ⟨rOp, rLt, rDr, x0⟩ := actO_range (HN3.out.aside (b1, actO d) (by simp)).1
          by_cases q1 : d.kind = 1
          · have q1' : (d.kind == 1) = true := by simpa using q1
            have hHT := fun (V : World) (hV : NodeIn V a n F) => NodeIssue_calls d.op d.draws hV (HR.out.runs.bound (by omega)).1
            obtain ⟨i1, i2, i3⟩ := HR.out.step d (fun b t e => by rw [comes_other (by omega)] at e; cases e)
            have hst : n.step d = ((n.issue d.op d.draws).1, (n.issue d.op d.draws).2.1, (n.issue d.op d.draws).2.2.1) := by unfold Node.step; rw [if_pos q1]
            rw [hst] at i1 i2
            have hth : ∀ j, (n.cache.tok j).count + come Bundle.count j (n.comes d) = th j := fun j => by rw [comes_other (by omega), HT.out j]; simp [come]
            obtain ⟨⟨m1, m2, m3, m4⟩, hm⟩ : ∃ m, m = n.issue d.op d.draws := ⟨_, rfl⟩
            simp only [← hm] at i1 i2 hHT
            have HI1 := Lib.hid i1
            have HI2 := Lib.hid (show SumsAt m1 th m2 from by simp only [hth] at i2; exact i2)
            have HI3 := Lib.hid (show ∀ j, th j ≤ c.tokens from fun j => by have := i3 j; rw [hth j] at this; exact this)
            have HHT := Lib.hid hHT
            clear hst hHT hm i1 i2 i3 hth q1
            generalize d.op = op at rOp HHT
            generalize d.draws = dr at rDr HHT
            go_wp2_with (first | (refine wpList_load_row rfl 25 _ rfl b1 1 rfl op.cells rOp (by kernel_rfl) (by kernel_rfl) ?_) | (refine wpList_load_row rfl 38 _ rfl b1 15 rfl dr.cells rDr (by kernel_rfl) (by kernel_rfl) ?_))
            refine (HHT.out _ HN3.out.node.here).mono ?_
            rintro e w4 ⟨FC4, u1, u2, rfl, hs4⟩
            obtain ⟨B1, i1, s1, e1⟩ := hs4.letters.shape
            obtain ⟨B2, i2, s2, e2⟩ := hs4.done.shape
            subst e1
            subst e2
            have HN4 := Lib.hid (HN3.out.sent hs4)
            have HO4 := Lib.hid (HN3.out.node.outs hs4).1
            obtain ⟨z0, z1, zf, lz⟩ := outO_cells HN4.out.head.1
            clear hs4
            go_wp2_with fail
            go_meet
            refine ⟨m1, FC4, .slice B1 i1 s1, .slice B2 i2 s2, m2, th, oT, f, NdA.sub (As := [(b2, outO (.slice B1 i1 s1) (.slice B2 i2 s2)), (b1, actO d), (tb, oT), (w.heap.size, cfgO c)]) (HN4.out.put (by repeat (first | with_reducible exact Chg.refl _ _ | with_reducible exact chg0 | with_reducible refine Chg.drewN ?_ _ | with_reducible refine Chg.drew ?_ | with_reducible refine Chg.alloc ?_ _ | with_reducible refine Chg.setCell ?_ _ _ (by first | (simp; done) | omega | (simp; omega)) | with_reducible refine Chg.setBlock ?_ _ _ (by first | (simp; done) | omega | (simp; omega)) | exact Chg.refl _ _)) ?_ (by omega) ?_) (by simp), HO4.out.at HN4.out.head.1 (by decide) (by repeat (first | with_reducible exact Chg.refl _ _ | with_reducible exact chg0 | with_reducible refine Chg.drewN ?_ _ | with_reducible refine Chg.drew ?_ | with_reducible refine Chg.alloc ?_ _ | with_reducible refine Chg.setCell ?_ _ _ (by first | (simp; done) | omega | (simp; omega)) | with_reducible refine Chg.setBlock ?_ _ _ (by first | (simp; done) | omega | (simp; omega)) | exact Chg.refl _ _)), HI1.out, HO.out, HB.out, HI2.out, HI3.out⟩
            · have ho := HN4.out.head.1
              simp only [outO] at ho
              simp [go_sem, ho, lz, setAt, outO]
              done
            · intro p hp; simp only [List.mem_cons, List.not_mem_nil, or_false] at hp; rcases hp with rfl | rfl | rfl <;> (simp only; omega)
          have q1' : (d.kind == 1) = false := by simpa using q1
          by_cases q2 : d.kind = 2
          · have q2' : (d.kind == 2) = true := by simpa using q2
            have oA := (HN3.out.aside (b1, actO d) (by simp)).1
            obtain ⟨x4, x5, x6, x7, x8, x9, x10, x11, x12, x13, x14⟩ : V.cell? ⟨b1, 4, none⟩ = some (.int .i64 d.letter.kind) ∧ V.cell? ⟨b1, 5, none⟩ = some (.int .i64 d.letter.src) ∧ V.cell? ⟨b1, 6, none⟩ = some (.int .i64 d.letter.dst) ∧ V.cell? ⟨b1, 7, none⟩ = some (.int .i64 d.letter.block) ∧ V.cell? ⟨b1, 8, none⟩ = some (.int .i64 d.letter.seq) ∧ V.cell? ⟨b1, 9, none⟩ = some (.int .i64 d.letter.who) ∧ V.cell? ⟨b1, 10, none⟩ = some (.bool d.letter.write) ∧ V.cell? ⟨b1, 11, none⟩ = some (.int .i64 d.letter.tokens.count) ∧ V.cell? ⟨b1, 12, none⟩ = some (.bool d.letter.tokens.owner) ∧ V.cell? ⟨b1, 13, none⟩ = some (.bool d.letter.tokens.has) ∧ V.cell? ⟨b1, 14, none⟩ = some (.int .i64 d.letter.tokens.data) := ⟨cell_ob oA 4, cell_ob oA 5, cell_ob oA 6, cell_ob oA 7, cell_ob oA 8, cell_ob oA 9, cell_ob oA 10, cell_ob oA 11, cell_ob oA 12, cell_ob oA 13, cell_ob oA 14⟩
            have lA := ob_lt oA
            have oC : cfgOb V w.heap.size c := (HN3.out.aside (w.heap.size, cfgO c) (by simp)).1
            obtain ⟨c0, c1, c2, c3, c4, c5, c6, c7, c8, cf, cl⟩ := ob_cells9 oC
            have hlk : (Instr.lookup 62 (.map (some tb)) (.int .i64 d.letter.block) false).run Tryz.prog V = .ok (.int .i64 (th d.letter.block)) V := by
              rw [HO.out.lookup tyIIn d.letter.block _ V (HN3.out.aside (tb, oT) (by simp)).1]
              rw [HB.out d.letter.block]
            have HSK := Lib.hid (show skips c th d.letter = (decide (d.letter.kind = 1) && (d.letter.tokens.owner || decide (c.tokens < th d.letter.block + min (max d.letter.tokens.count 0) 1048576))) from rfl)
            have Q2 := Lib.hid (And.intro q1 q2)
            clear oA oC q1 q2
            go_upto_region 13 with fail
            go_cut [83] (fun s83 wx => s83 = .bool (skips c th d.letter) ∧ wx = V)
            case first =>
              have hth0 : 0 ≤ th d.letter.block ∧ th d.letter.block ≤ 65536 := by
                have h1 := HT.out d.letter.block
                have h2 := HR.out.few d.letter.block
                have h3 := (HR.out.runs.ok.good d.letter.block).pos
                have h4 := HF.out.tokens
                omega
              have ew : IntKind.i64.wrap (th d.letter.block + min (max d.letter.tokens.count 0) 1048576) = th d.letter.block + min (max d.letter.tokens.count 0) 1048576 := by rw [IntKind.wrap_i64]; omega
              by_cases k1 : d.letter.kind = 1
              · have k1' : (d.letter.kind == 1) = true := by simpa using k1
                have K1 := Lib.hid k1
                cases ko : d.letter.tokens.owner with
                | true =>
                  rw [ko] at x12
                  have KO := Lib.hid ko
                  clear k1 hth0 ko
                  go_wp2_with fail
                  go_meet
                  exact ⟨by rw [HSK.out, KO.out, decide_eq_true K1.out]; rfl, rfl⟩
                | false =>
                  rw [ko] at x12
                  have KO := Lib.hid ko
                  clear k1 hth0 ko
                  go_wp2_with fail
                  go_meet
                  exact ⟨by rw [HSK.out, KO.out, decide_eq_true K1.out]; simp, rfl⟩
              · have k1' : (d.letter.kind == 1) = false := by simpa using k1
                have K1 := Lib.hid k1
                clear k1 hth0
                go_wp2_with fail
                go_meet
                exact ⟨by rw [HSK.out, decide_eq_false K1.out]; rfl, rfl⟩
            case rest =>
            obtain ⟨rfl, hw⟩ := hcut
            replace hw := hw.symm
            subst hw
            cases hs : skips c th d.letter with
            | true =>
              clear HSK
              go_wp2_with fail
              go_roundg (l.length - (k + 1))
              case rel => exact ⟨_, k + 1, n, F, th, oT, f, rfl, by omega, rfl, by go_num, NdA.sub HN3.out (by simp), HR.out.more, HO.out, HB.out, HT.out⟩
              case measure => omega
            | false =>
              have HS0 := Lib.hid hs
              have HCK := Lib.hid (fun (V : World) => RefLCheck_calls c d.letter V)
              simp only [Config.val, Config.cells, Letter.val] at HCK
              clear HSK hlk
              obtain ⟨lc, hlc⟩ : ∃ lc : Bool, lc = (decide (d.letter.err c = 0) && decide (d.letter.dst = id)) := ⟨_, rfl⟩
              have HLC := Lib.hid hlc
              clear hlc hs
              go_upto_region 14 with fail
              go_cut [95] (fun s95 wx => s95 = .bool lc ∧ NdA w wx a n F [(b2, outO (.slice none 0 0) (.slice none 0 0)), (b1, actO d), (tb, oT), (w.heap.size, cfgO c)])
              case first =>
                generalize d.letter.cells = LC at rLt HCK
                generalize d.letter.err c = er at HCK HLC
                clear x4 x5 x7 x8 x9 x10 x11 x12 x13 x14
                go_wp2_with (first | (refine wpList_load_row rfl 44 _ rfl b1 4 rfl LC rLt (by kernel_rfl) (by kernel_rfl) ?_))
                refine (HCK.out _).mono ?_
                rintro e w5 ⟨rfl, hb5⟩
                have HN5 := Lib.hid (HN3.out.same (below_trans (Chg.below (by repeat (first | with_reducible exact Chg.refl _ _ | with_reducible exact chg0 | with_reducible refine Chg.drewN ?_ _ | with_reducible refine Chg.drew ?_ | with_reducible refine Chg.alloc ?_ _ | with_reducible refine Chg.setCell ?_ _ _ (by first | (simp; done) | omega | (simp; omega)) | with_reducible refine Chg.setBlock ?_ _ _ (by first | (simp; done) | omega | (simp; omega)) | exact Chg.refl _ _))) hb5))
                have oA := (HN5.out.aside (b1, actO d) (by simp)).1
                have y6 : w5.cell? ⟨b1, 6, none⟩ = some (.int .i64 d.letter.dst) := cell_ob oA 6
                have lB := ob_lt oA
                clear hb5 oA x6
                by_cases qe : er = 0
                · have qe' : (er == 0) = true := by simpa using qe
                  by_cases qd : d.letter.dst = id
                  · have qd' : (d.letter.dst == id) = true := by simpa using qd
                    have HL2 := Lib.hid (show lc = true from by rw [HLC.out]; simp [qe, qd])
                    clear qe qd
                    go_wp2_with fail
                    go_meet
                    exact ⟨by rw [HL2.out], HN5.out.same (Chg.below (by repeat (first | with_reducible exact Chg.refl _ _ | with_reducible exact chg0 | with_reducible refine Chg.drewN ?_ _ | with_reducible refine Chg.drew ?_ | with_reducible refine Chg.alloc ?_ _ | with_reducible refine Chg.setCell ?_ _ _ (by first | (simp; done) | omega | (simp; omega)) | with_reducible refine Chg.setBlock ?_ _ _ (by first | (simp; done) | omega | (simp; omega)) | exact Chg.refl _ _)))⟩
                  · have qd' : (d.letter.dst == id) = false := by simpa using qd
                    have HL2 := Lib.hid (show lc = false from by rw [HLC.out]; simp [qd])
                    clear qe qd
                    go_wp2_with fail
                    go_meet
                    exact ⟨by rw [HL2.out], HN5.out.same (Chg.below (by repeat (first | with_reducible exact Chg.refl _ _ | with_reducible exact chg0 | with_reducible refine Chg.drewN ?_ _ | with_reducible refine Chg.drew ?_ | with_reducible refine Chg.alloc ?_ _ | with_reducible refine Chg.setCell ?_ _ _ (by first | (simp; done) | omega | (simp; omega)) | with_reducible refine Chg.setBlock ?_ _ _ (by first | (simp; done) | omega | (simp; omega)) | exact Chg.refl _ _)))⟩
                · have qe' : (er == 0) = false := by simpa using qe
                  have HL2 := Lib.hid (show lc = false from by rw [HLC.out]; simp [qe])
                  clear qe
                  go_wp2_with fail
                  go_meet
                  exact ⟨by rw [HL2.out], HN5.out.same (Chg.below (by repeat (first | with_reducible exact Chg.refl _ _ | with_reducible exact chg0 | with_reducible refine Chg.drewN ?_ _ | with_reducible refine Chg.drew ?_ | with_reducible refine Chg.alloc ?_ _ | with_reducible refine Chg.setCell ?_ _ _ (by first | (simp; done) | omega | (simp; omega)) | with_reducible refine Chg.setBlock ?_ _ _ (by first | (simp; done) | omega | (simp; omega)) | exact Chg.refl _ _)))⟩
              case rest =>
              obtain ⟨rfl, hN4⟩ := hcut
              have HN4 := Lib.hid (NdA.sub (Bs := [(tb, oT), (b2, outO (.slice none 0 0) (.slice none 0 0)), (b1, actO d), (w.heap.size, cfgO c)]) hN4 (by simp))
              clear hN4 HN3 HCK rOp rLt rDr x0 x4 x5 x6 x7 x8 x9 x10 x11 x12 x13 x14 lA c0 c1 c2 c3 c4 c5 c6 c7 c8 cf cl
              go_upto_if 95 with fail
              go_cut [] (fun wx => ∃ th oT f, NdA w wx a n F [(tb, oT), (b2, outO (.slice none 0 0) (.slice none 0 0)), (b1, actO d), (w.heap.size, cfgO c)] ∧ MapObj oT f ∧ IntMap th f ∧ ∀ j, (n.cache.tok j).count + come Bundle.count j (n.comes d) = th j)
              case first =>
                cases lc with
                | true =>
                  have oA := (HN4.out.aside (b1, actO d) (by simp)).1
                  obtain ⟨x7, x11⟩ : wc.cell? ⟨b1, 7, none⟩ = some (.int .i64 d.letter.block) ∧ wc.cell? ⟨b1, 11, none⟩ = some (.int .i64 d.letter.tokens.count) := ⟨cell_ob oA 7, cell_ob oA 11⟩
                  have lA := ob_lt oA
                  have oT0 := HN4.out.head.1
                  have lT := ob_lt oT0
                  have hlk := HO.out.lookup tyIIn d.letter.block _ _ oT0
                  rw [HB.out d.letter.block] at hlk
                  have hld : d.letter.err c = 0 ∧ d.letter.dst = id := by have := HLC.out; simpa using this.symm
                  have hct : ∀ j, come Bundle.count j (n.comes d) = if d.letter.block = j then d.letter.tokens.count else 0 := fun j => comes_take Q2.out.2 (by rw [HR.out.nc]; exact hld.1) (by rw [HR.out.ni]; exact hld.2) j
                  have hst := (HR.out.step d (skips_no HR.out d HT.out HS0.out)).2.2 d.letter.block
                  rw [hct, if_pos rfl, ← HT.out] at hst
                  have hcn : 0 ≤ th d.letter.block + d.letter.tokens.count ∧ th d.letter.block + d.letter.tokens.count ≤ 65536 := by
                    have hL : d.letter.legal n.c = true := by rw [HR.out.nc]; simp [Letter.legal, hld.1]
                    have h1 : 0 ≤ d.letter.tokens.count := by
                      by_cases hk1 : d.letter.kind = 1
                      · exact ((Letter.legal_iff.1 hL).good hk1).1.pos
                      · rw [(Letter.legal_iff.1 hL).other hk1]; exact Int.le_refl _
                    have h2 := (HR.out.runs.ok.good d.letter.block).pos
                    have h3 := HT.out d.letter.block
                    have h4 := HF.out.tokens
                    omega
                  have ew : IntKind.i64.wrap (th d.letter.block + d.letter.tokens.count) = th d.letter.block + d.letter.tokens.count := by rw [IntKind.wrap_i64]; omega
                  obtain ⟨oT2, hO2, hup⟩ := HO.out.update tyIIn d.letter.block (.int .i64 (th d.letter.block + d.letter.tokens.count)) tb
                  have hup2 := hup wc oT0
                  have HO2 := Lib.hid hO2
                  have HCT := Lib.hid hct
                  clear oA hld hct hst hcn hO2 hup oT0
                  go_wp2_with fail
                  go_meet
                  refine ⟨_, oT2, _, HN4.out.put (by repeat (first | with_reducible exact Chg.refl _ _ | with_reducible exact chg0 | with_reducible refine Chg.drewN ?_ _ | with_reducible refine Chg.drew ?_ | with_reducible refine Chg.alloc ?_ _ | with_reducible refine Chg.setCell ?_ _ _ (by first | (simp; done) | omega | (simp; omega)) | with_reducible refine Chg.setBlock ?_ _ _ (by first | (simp; done) | omega | (simp; omega)) | exact Chg.refl _ _)) (by simp [go_sem, lT]) (by omega) ?_, HO2.out, HB.out.upd d.letter.block (th d.letter.block + d.letter.tokens.count), fun j => ?_⟩
                  · intro p hp; simp only [List.mem_cons, List.not_mem_nil, or_false] at hp; rcases hp with rfl | rfl | rfl <;> (simp only; omega)
                  · rw [HCT.out j, ← HT.out j]
                    by_cases e : j = d.letter.block
                    · subst e; simp
                    · simp [e, Ne.symm e]
                | false =>
                  have hct : ∀ j, come Bundle.count j (n.comes d) = 0 := fun j => by
                    rw [comes_not (n := n) (d := d) (fun h => by have := HLC.out; rw [HR.out.nc, HR.out.ni] at h; simp [h.1, h.2] at this)]; rfl
                  have HCT := Lib.hid hct
                  clear hct
                  go_wp2_with fail
                  go_meet
                  exact ⟨th, oT, f, HN4.out.same (Chg.below (by repeat (first | with_reducible exact Chg.refl _ _ | with_reducible exact chg0 | with_reducible refine Chg.drewN ?_ _ | with_reducible refine Chg.drew ?_ | with_reducible refine Chg.alloc ?_ _ | with_reducible refine Chg.setCell ?_ _ _ (by first | (simp; done) | omega | (simp; omega)) | with_reducible refine Chg.setBlock ?_ _ _ (by first | (simp; done) | omega | (simp; omega)) | exact Chg.refl _ _))), HO.out, HB.out, fun j => by rw [HCT.out j, ← HT.out j]; simp⟩
              case rest =>
              obtain ⟨th', oT', f', hN5, hO5, hB5, hth⟩ := hcut
              obtain ⟨i1, i2, i3⟩ := HR.out.step d (skips_no HR.out d HT.out HS0.out)
              have HN4 := Lib.hid (NdA.sub (Bs := [(b2, outO (.slice none 0 0) (.slice none 0 0)), (b1, actO d), (tb, oT'), (w.heap.size, cfgO c)]) hN5 (by simp))
              clear HO HB HT HLC HS0
              have HO := Lib.hid hO5
              have HB := Lib.hid hB5
              have hHT := fun (V : World) (hV : NodeIn V a n F) => NodeTake_calls d.letter d.draws hV (HR.out.runs.bound (by omega)).2
              have hst : n.step d = n.take d.letter d.draws := by unfold Node.step; rw [if_neg Q2.out.1, if_pos Q2.out.2]
              rw [hst] at i1 i2
              obtain ⟨⟨m1, m2, m3⟩, hm⟩ : ∃ m, m = n.take d.letter d.draws := ⟨_, rfl⟩
              simp only [← hm] at i1 i2 hHT
              have HI1 := Lib.hid i1
              have HI2 := Lib.hid (show SumsAt m1 th' m2 from by simp only [hth] at i2; exact i2)
              have HI3 := Lib.hid (show ∀ j, th' j ≤ c.tokens from fun j => by have := i3 j; rw [hth j] at this; exact this)
              have HHT := Lib.hid hHT
              clear hst hHT hm i1 i2 i3 hth hN5 hO5 hB5 Q2
              obtain ⟨rOp, rLt, rDr, _⟩ := actO_range (HN4.out.aside (b1, actO d) (by simp)).1
              generalize hlt2 : d.letter = lt at rLt HHT
              generalize hdr2 : d.draws = dr at rDr HHT
              clear hlt2 hdr2
              go_wp2_with (first | (refine wpList_load_row rfl 44 _ rfl b1 4 rfl lt.cells rLt (by kernel_rfl) (by kernel_rfl) ?_) | (refine wpList_load_row rfl 38 _ rfl b1 15 rfl dr.cells rDr (by kernel_rfl) (by kernel_rfl) ?_))
              refine (HHT.out _ HN4.out.node.here).mono ?_
              rintro e w5 ⟨FC4, u1, u2, rfl, hs4⟩
              obtain ⟨B1, i1, s1, e1⟩ := hs4.letters.shape
              obtain ⟨B2, i2, s2, e2⟩ := hs4.done.shape
              subst e1
              subst e2
              have HN5 := Lib.hid (HN4.out.sent hs4)
              have HO5 := Lib.hid (HN4.out.node.outs hs4).1
              obtain ⟨z0, z1, zf, lz⟩ := outO_cells HN5.out.head.1
              clear hs4
              go_wp2_with fail
              go_meet
              refine ⟨m1, FC4, .slice B1 i1 s1, .slice B2 i2 s2, m2, th', oT', f', NdA.sub (As := [(b2, outO (.slice B1 i1 s1) (.slice B2 i2 s2)), (b1, actO d), (tb, oT'), (w.heap.size, cfgO c)]) (HN5.out.put (by repeat (first | with_reducible exact Chg.refl _ _ | with_reducible exact chg0 | with_reducible refine Chg.drewN ?_ _ | with_reducible refine Chg.drew ?_ | with_reducible refine Chg.alloc ?_ _ | with_reducible refine Chg.setCell ?_ _ _ (by first | (simp; done) | omega | (simp; omega)) | with_reducible refine Chg.setBlock ?_ _ _ (by first | (simp; done) | omega | (simp; omega)) | exact Chg.refl _ _)) ?_ (by omega) ?_) (by simp), HO5.out.at HN5.out.head.1 (by decide) (by repeat (first | with_reducible exact Chg.refl _ _ | with_reducible exact chg0 | with_reducible refine Chg.drewN ?_ _ | with_reducible refine Chg.drew ?_ | with_reducible refine Chg.alloc ?_ _ | with_reducible refine Chg.setCell ?_ _ _ (by first | (simp; done) | omega | (simp; omega)) | with_reducible refine Chg.setBlock ?_ _ _ (by first | (simp; done) | omega | (simp; omega)) | exact Chg.refl _ _)), HI1.out, HO.out, HB.out, HI2.out, HI3.out⟩
              · have ho := HN5.out.head.1
                simp only [outO] at ho
                simp [go_sem, ho, lz, setAt, outO]
                done
              · intro p hp; simp only [List.mem_cons, List.not_mem_nil, or_false] at hp; rcases hp with rfl | rfl | rfl <;> (simp only; omega)
          have q2' : (d.kind == 2) = false := by simpa using q2
          obtain ⟨i1, i2, i3⟩ := HR.out.step d (fun b t e => by rw [comes_other q2] at e; cases e)
          have hth : ∀ j, (n.cache.tok j).count + come Bundle.count j (n.comes d) = th j := fun j => by rw [comes_other q2, HT.out j]; simp [come]
          by_cases q3 : d.kind = 3
          · have q3' : (d.kind == 3) = true := by simpa using q3
            have hHT := fun (V : World) (hV : NodeIn V a n F) => NodeTick_calls d.draws hV
            have hst : n.step d = ((n.tick d.draws).1, (n.tick d.draws).2, []) := by unfold Node.step; rw [if_neg q1, if_neg q2, if_pos q3]
            rw [hst] at i1 i2
            obtain ⟨⟨m1, m2⟩, hm⟩ : ∃ m, m = n.tick d.draws := ⟨_, rfl⟩
            simp only [← hm] at i1 i2 hHT
            have HI1 := Lib.hid i1
            have HI2 := Lib.hid (show SumsAt m1 th m2 from by simp only [hth] at i2; exact i2)
            have HI3 := Lib.hid (show ∀ j, th j ≤ c.tokens from fun j => by have := i3 j; rw [hth j] at this; exact this)
            have HHT := Lib.hid hHT
            clear hst hHT hm i1 i2 i3 hth q1 q2 q3
            generalize d.draws = dr at rDr HHT
            go_wp2_with (first | (refine wpList_load_row rfl 38 _ rfl b1 15 rfl dr.cells rDr (by kernel_rfl) (by kernel_rfl) ?_))
            refine (HHT.out _ HN3.out.node.here).mono ?_
            rintro e w5 ⟨FC4, u1, u2, rfl, hs4⟩
            obtain ⟨B1, i1, s1, e1⟩ := hs4.letters.shape
            obtain ⟨B2, i2, s2, e2⟩ := hs4.done.shape
            subst e1
            subst e2
            have HN5 := Lib.hid (HN3.out.sent hs4)
            have HO5 := Lib.hid (HN3.out.node.outs hs4).1
            obtain ⟨z0, z1, zf, lz⟩ := outO_cells HN5.out.head.1
            clear hs4
            go_wp2_with fail
            go_meet
            refine ⟨m1, FC4, .slice B1 i1 s1, .slice B2 i2 s2, m2, th, oT, f, NdA.sub (As := [(b2, outO (.slice B1 i1 s1) (.slice B2 i2 s2)), (b1, actO d), (tb, oT), (w.heap.size, cfgO c)]) (HN5.out.put (by repeat (first | with_reducible exact Chg.refl _ _ | with_reducible exact chg0 | with_reducible refine Chg.drewN ?_ _ | with_reducible refine Chg.drew ?_ | with_reducible refine Chg.alloc ?_ _ | with_reducible refine Chg.setCell ?_ _ _ (by first | (simp; done) | omega | (simp; omega)) | with_reducible refine Chg.setBlock ?_ _ _ (by first | (simp; done) | omega | (simp; omega)) | exact Chg.refl _ _)) ?_ (by omega) ?_) (by simp), HO5.out.at HN5.out.head.1 (by decide) (by repeat (first | with_reducible exact Chg.refl _ _ | with_reducible exact chg0 | with_reducible refine Chg.drewN ?_ _ | with_reducible refine Chg.drew ?_ | with_reducible refine Chg.alloc ?_ _ | with_reducible refine Chg.setCell ?_ _ _ (by first | (simp; done) | omega | (simp; omega)) | with_reducible refine Chg.setBlock ?_ _ _ (by first | (simp; done) | omega | (simp; omega)) | exact Chg.refl _ _)), HI1.out, HO.out, HB.out, HI2.out, HI3.out⟩
            · have ho := HN5.out.head.1
              simp only [outO] at ho
              simp [go_sem, ho, lz, setAt, outO]
              done
            · intro p hp; simp only [List.mem_cons, List.not_mem_nil, or_false] at hp; rcases hp with rfl | rfl | rfl <;> (simp only; omega)
          · have q3' : (d.kind == 3) = false := by simpa using q3
            have hst : n.step d = (n, [], []) := by unfold Node.step; rw [if_neg q1, if_neg q2, if_neg q3]
            rw [hst] at i1 i2
            have HI1 := Lib.hid i1
            have HI2 := Lib.hid (show SumsAt n th [] from by simp only [hth] at i2; exact i2)
            have HI3 := Lib.hid (show ∀ j, th j ≤ c.tokens from fun j => by have := i3 j; rw [hth j] at this; exact this)
            clear hst i1 i2 i3 hth q1 q2 q3
            go_wp2_with fail
            go_meet
            exact ⟨n, F, .slice none 0 0, .slice none 0 0, [], th, oT, f, NdA.sub (HN3.out.same (Chg.below (by repeat (first | with_reducible exact Chg.refl _ _ | with_reducible exact chg0 | with_reducible refine Chg.drewN ?_ _ | with_reducible refine Chg.drew ?_ | with_reducible refine Chg.alloc ?_ _ | with_reducible refine Chg.setCell ?_ _ _ (by first | (simp; done) | omega | (simp; omega)) | with_reducible refine Chg.setBlock ?_ _ _ (by first | (simp; done) | omega | (simp; omega)) | exact Chg.refl _ _)))) (by simp), ⟨OwnSl.nil, fun j hj => by cases hj⟩, HI1.out, HO.out, HB.out, HI2.out, HI3.out⟩
        case rest =>
        obtain ⟨n', F4, v1, v2, L, th', oT', f', hN4, hO4, hI1, hO5, hB5, hI2, hI3⟩ := hcut
        clear HN3 HR HO HB HT hb12
        obtain ⟨A1, cap1, e1⟩ := hO4.1.form
        rw [List.length_map] at e1
        subst e1
        have HN5 := Lib.hid (NdA.sub (Bs := [(tb, oT'), (w.heap.size, cfgO c)]) hN4 (by simp))
        have HO4 := Lib.hid hO4
        have HR := Lib.hid hI1
        have HO := Lib.hid hO5
        have HB := Lib.hid hB5
        have HES := Lib.hid (And.intro hI2 hI3)
        have hLl : L.length ≤ 9223372036854775807 := by obtain ⟨_, _, _, _, h, _⟩ := sliceOf (cells := Letter.cells) hO4.1.slice; exact h
        obtain ⟨z0, z1, zf, lz⟩ := outO_cells (hN4.aside (b2, outO (.slice A1 L.length cap1) v2) (by simp)).1
        clear hN4 hO4 hI1 hO5 hB5 hI2 hI3
        go_wp2_with fail
        go_loopg [121] L.length (fun g i wx => ∃ (wq : World) (j : Nat) (th : Int → Int) (oT : Obj) (f : Int → Option Value), wx = wq ∧ j ≤ L.length ∧ g = L.length - j ∧ i = .int .i64 j ∧
          NdA w wq a n' F4 [(tb, oT), (w.heap.size, cfgO c)] ∧ Own0 w wq 44 11 (.slice A1 L.length cap1) (L.map Letter.cells) ∧ MapObj oT f ∧ IntMap th f ∧ SumsAt n' th (L.drop j) ∧ ∀ j, th j ≤ c.tokens)
        case atStart => exact ⟨_, 0, _, _, _, rfl, Nat.zero_le _, rfl, rfl, HN5.out, HO4.out, HO.out, HB.out, HES.out.1, HES.out.2⟩
        case round =>
          obtain ⟨wq, j, th, oT, f, hwx, hj, rfl, rfl, hN, hO4, hO, hB, hES, hle⟩ := hrel
          replace hwx := hwx.symm
          subst hwx
          clear HN5 HO4 HO HB HES z0 z1 zf lz
          have HN := Lib.hid hN
          have HO := Lib.hid hO
          have HB := Lib.hid hB
          have HO4 := Lib.hid hO4
          have HES := Lib.hid (And.intro hES hle)
          clear hN hO hB hES hle
          by_cases hlj : j < L.length
          · obtain ⟨A5, s5, e7, _, _, hat⟩ := sliceOf (cells := Letter.cells) hO4.1.slice
            cases e7
            obtain ⟨qb, qo, e8, hr⟩ := hat (by omega)
            subst e8
            have hrow := hr j hlj
            obtain ⟨x, hx⟩ : ∃ x, x = L[j] := ⟨_, rfl⟩
            have hdrop : L.drop j = x :: L.drop (j + 1) := by rw [hx]; exact List.drop_eq_getElem_cons hlj
            rw [← hx] at hrow
            have HD := Lib.hid hdrop
            have HROW := Lib.hid hrow
            clear hr hrow hx hdrop hat hO4
            go_upto_region 21 with fail
            go_cut [15] (fun s16 wx => s16 = .pointer (some ⟨wq.heap.size, 0, none⟩) ∧ ob wx wq.heap.size = some (letO x) ∧ Below wq.heap.size wq wx)
            case first =>
              have h18 : x.cells.toArray.size = 11 := rfl
              have hone : x.cells.toArray.all (·.oneCell') = true := letter_one x
              have HFIN := Lib.hid (fun W : World => show ob (W.alloc (.cells x.cells.toArray 44)) W.heap.size = some (letO x) from ob_alloc_at _ _)
              have HR := HROW
              generalize x.cells = CS at HR h18 hone HFIN
              go_wp2_with (first | (refine wpList_load_row rfl 44 _ rfl qb (qo + j * 11) rfl CS HR.out (by kernel_rfl) (Eq.trans (by kernel_rfl : _ = some 11) (by simpa using h18.symm)) ?_) | (refine wpList_store_new rfl 44 _ _ rfl _ CS.toArray rfl rfl (Eq.trans (by kernel_rfl : _ = some 11) (by simpa using h18.symm)) (by simpa using h18.symm) hone ?_))
              go_meet
              exact ⟨rfl, HFIN.out _, Chg.below (by repeat (first | with_reducible exact Chg.refl _ _ | with_reducible exact chg0 | with_reducible refine Chg.drewN ?_ _ | with_reducible refine Chg.drew ?_ | with_reducible refine Chg.alloc ?_ _ | with_reducible refine Chg.setCell ?_ _ _ (by first | (simp; done) | omega | (simp; omega)) | with_reducible refine Chg.setBlock ?_ _ _ (by first | (simp; done) | omega | (simp; omega)) | exact Chg.refl _ _))⟩
            case rest =>
            obtain ⟨rfl, hA, hbA⟩ := hcut
            have HN6 := Lib.hid (HN.out.add hbA hA (Nat.le_refl _))
            have HO6 := Lib.hid (HO4.out.step hbA)
            have lq : tb < wq.heap.size := ob_lt HN.out.head.1
            obtain ⟨b3, hb3⟩ : ∃ b3, b3 = wq.heap.size := ⟨_, rfl⟩
            rw [← hb3] at HN6 lq hA
            simp only [← hb3]
            have rL := range_ob hA
            have oC : cfgOb wc w.heap.size c := (HN6.out.aside (w.heap.size, cfgO c) (by simp)).1
            obtain ⟨c0, c1, c2, c3, c4, c5, c6, c7, c8, cf, cl⟩ := ob_cells9 oC
            have hES := HES.out.1
            rw [HD.out] at hES
            have HES1 := Lib.hid hES
            have hlx := hES.legal x (by simp)
            rw [HR.out.nc, HR.out.ni] at hlx
            have hsr : (x.src != id) = false := by simp [hlx.2]
            have HCK := Lib.hid (fun (V : World) => RefLCheck_calls c x V)
            rw [Letter.err_zero.2 hlx.1] at HCK
            have HSR := Lib.hid hlx.2
            simp only [Config.val, Config.cells, Letter.val] at HCK
            clear hbA HROW HN HO4 oC hA hES hlx hb3
            go_upto_region 22 with fail
            go_cut [134] (fun s134 wx => s134 = .bool false ∧ NdA w wx a n' F4 [(b3, letO x), (tb, oT), (w.heap.size, cfgO c)] ∧ Own0 w wx 44 11 (.slice (some ⟨qb, qo, none⟩) L.length cap1) (L.map Letter.cells))
            case first =>
              generalize x.cells = LC at rL HCK
              go_wp2_with (first | (refine wpList_load_row rfl 44 _ rfl b3 0 rfl LC rL (by kernel_rfl) (by kernel_rfl) ?_))
              refine (HCK.out _).mono ?_
              rintro e w5 ⟨rfl, hb5⟩
              have HN7 := Lib.hid (HN6.out.same (below_trans (Chg.below (by repeat (first | with_reducible exact Chg.refl _ _ | with_reducible exact chg0 | with_reducible refine Chg.drewN ?_ _ | with_reducible refine Chg.drew ?_ | with_reducible refine Chg.alloc ?_ _ | with_reducible refine Chg.setCell ?_ _ _ (by first | (simp; done) | omega | (simp; omega)) | with_reducible refine Chg.setBlock ?_ _ _ (by first | (simp; done) | omega | (simp; omega)) | exact Chg.refl _ _))) hb5))
              have HO7 := Lib.hid (HO6.out.step (below_trans (Chg.below (by repeat (first | with_reducible exact Chg.refl _ _ | with_reducible exact chg0 | with_reducible refine Chg.drewN ?_ _ | with_reducible refine Chg.drew ?_ | with_reducible refine Chg.alloc ?_ _ | with_reducible refine Chg.setCell ?_ _ _ (by first | (simp; done) | omega | (simp; omega)) | with_reducible refine Chg.setBlock ?_ _ _ (by first | (simp; done) | omega | (simp; omega)) | exact Chg.refl _ _))) hb5))
              have oL := HN7.out.head.1
              have y1 : w5.cell? ⟨b3, 1, none⟩ = some (.int .i64 x.src) := cell_ob oL 1
              have lL := ob_lt oL
              clear hb5 oL rL
              go_wp2_with fail
              go_meet
              exact ⟨rfl, HN7.out.same (Chg.below (by repeat (first | with_reducible exact Chg.refl _ _ | with_reducible exact chg0 | with_reducible refine Chg.drewN ?_ _ | with_reducible refine Chg.drew ?_ | with_reducible refine Chg.alloc ?_ _ | with_reducible refine Chg.setCell ?_ _ _ (by first | (simp; done) | omega | (simp; omega)) | with_reducible refine Chg.setBlock ?_ _ _ (by first | (simp; done) | omega | (simp; omega)) | exact Chg.refl _ _))), HO7.out.step (Chg.below (by repeat (first | with_reducible exact Chg.refl _ _ | with_reducible exact chg0 | with_reducible refine Chg.drewN ?_ _ | with_reducible refine Chg.drew ?_ | with_reducible refine Chg.alloc ?_ _ | with_reducible refine Chg.setCell ?_ _ _ (by first | (simp; done) | omega | (simp; omega)) | with_reducible refine Chg.setBlock ?_ _ _ (by first | (simp; done) | omega | (simp; omega)) | exact Chg.refl _ _)))⟩
            case rest =>
            obtain ⟨rfl, hN7, hO7⟩ := hcut
            have HN7 := Lib.hid (NdA.sub (Bs := [(tb, oT), (b3, letO x), (w.heap.size, cfgO c)]) hN7 (by simp))
            have HO7 := Lib.hid hO7
            have oL := hN7.head.1
            obtain ⟨x3, x7⟩ : wc.cell? ⟨b3, 3, none⟩ = some (.int .i64 x.block) ∧ wc.cell? ⟨b3, 7, none⟩ = some (.int .i64 x.tokens.count) := ⟨cell_ob oL 3, cell_ob oL 7⟩
            have lL := ob_lt oL
            have oT0 := HN7.out.head.1
            have lT := ob_lt oT0
            have hlk := HO.out.lookup tyIIn x.block _ _ oT0
            rw [HB.out x.block] at hlk
            obtain ⟨g1, g2, g3⟩ := HES1.out.low HR.out.runs.ok x.block
            have hmx := HES.out.2 x.block
            have htk := HF.out.tokens
            have ew : IntKind.i64.wrap (th x.block - x.tokens.count) = th x.block - x.tokens.count := by rw [IntKind.wrap_i64]; omega
            obtain ⟨oT2, hO2, hup⟩ := HO.out.update tyIIn x.block (.int .i64 (th x.block - x.tokens.count)) tb
            have hup2 := hup wc oT0
            have HO2 := Lib.hid hO2
            have HG := Lib.hid (show ∀ b, (if b = x.block then th x.block - x.tokens.count else th b) ≤ c.tokens from fun b => by
              split
              · omega
              · exact HES.out.2 b)
            clear oL hN7 hO7 hO2 hup oT0 g1 g2 g3 hmx htk HN6 HO6 rL HCK c0 c1 c2 c3 c4 c5 c6 c7 c8 cf cl
            go_wp2_with fail
            go_roundg (L.length - (j + 1))
            case rel =>
              exact ⟨_, j + 1, _, oT2, _, rfl, by omega, rfl, by go_num, NdA.sub (As := [(tb, oT2), (b3, letO x), (w.heap.size, cfgO c)]) (HN7.out.put (by repeat (first | with_reducible exact Chg.refl _ _ | with_reducible exact chg0 | with_reducible refine Chg.drewN ?_ _ | with_reducible refine Chg.drew ?_ | with_reducible refine Chg.alloc ?_ _ | with_reducible refine Chg.setCell ?_ _ _ (by first | (simp; done) | omega | (simp; omega)) | with_reducible refine Chg.setBlock ?_ _ _ (by first | (simp; done) | omega | (simp; omega)) | exact Chg.refl _ _)) (by simp [go_sem, lT]) (by omega) (by intro p hp; simp only [List.mem_cons, List.not_mem_nil, or_false] at hp; rcases hp with rfl | rfl <;> (simp only; omega))) (by simp),
                HO7.out.atMap HN7.out.head.1 (by obtain ⟨es, cl, e, _⟩ := HO.out; exact ⟨es, cl, e⟩) (by repeat (first | with_reducible exact Chg.refl _ _ | with_reducible exact chg0 | with_reducible refine Chg.drewN ?_ _ | with_reducible refine Chg.drew ?_ | with_reducible refine Chg.alloc ?_ _ | with_reducible refine Chg.setCell ?_ _ _ (by first | (simp; done) | omega | (simp; omega)) | with_reducible refine Chg.setBlock ?_ _ _ (by first | (simp; done) | omega | (simp; omega)) | exact Chg.refl _ _)), HO2.out, HB.out.upd x.block (th x.block - x.tokens.count), HES1.out.next, HG.out⟩
            case measure => omega
          · have hLj : L.drop j = [] := List.drop_eq_nil_iff.2 (by omega)
            have hES := HES.out.1
            rw [hLj] at hES
            have HTH := Lib.hid hES.over
            clear hES hO4 HES HO4
            have hfld := placeLines
            have HP := Lib.hid (fun (V : World) (hV : NodeIn V a n' F4) => NodePlace_calls hV)
            generalize n'.cpu.busy = bu at HP
            generalize n'.cpu.op = po at HP
            generalize n'.table.list = LT at HP
            have hAS := AllAt.start HR.out.runs.ok
            generalize n'.cache.all = LL at HP hAS
            have HAS := Lib.hid hAS
            clear hAS
            go_upto_region 27 with fail
            have HN8 := Lib.hid (show NdA w (wq.alloc (.map #[] 0)) a n' F4 [(wq.heap.size, .map #[] 0), (tb, oT), (w.heap.size, cfgO c)] from HN.out.add (Chg.below (by repeat (first | with_reducible exact Chg.refl _ _ | with_reducible exact chg0 | with_reducible refine Chg.drewN ?_ _ | with_reducible refine Chg.drew ?_ | with_reducible refine Chg.alloc ?_ _ | with_reducible refine Chg.setCell ?_ _ _ (by first | (simp; done) | omega | (simp; omega)) | with_reducible refine Chg.setBlock ?_ _ _ (by first | (simp; done) | omega | (simp; omega)) | exact Chg.refl _ _))) (by simp [go_sem]) (Nat.le_refl _))
            have ltq : tb < wq.heap.size := ob_lt HN.out.head.1
            obtain ⟨ab, hab⟩ : ∃ ab, ab = wq.heap.size := ⟨_, rfl⟩
            obtain ⟨W8, hW8⟩ : ∃ W8, W8 = wq.alloc (.map #[] 0) := ⟨_, rfl⟩
            rw [← hab, ← hW8] at HN8
            rw [← hab] at ltq
            simp only [← hab, ← hW8]
            clear hab hW8 HN
            go_wp2_with fail
            refine (HP.out _ (HN8.out.same (Chg.below (by repeat (first | with_reducible exact Chg.refl _ _ | with_reducible exact chg0 | with_reducible refine Chg.drewN ?_ _ | with_reducible refine Chg.drew ?_ | with_reducible refine Chg.alloc ?_ _ | with_reducible refine Chg.setCell ?_ _ _ (by first | (simp; done) | omega | (simp; omega)) | with_reducible refine Chg.setBlock ?_ _ _ (by first | (simp; done) | omega | (simp; omega)) | exact Chg.refl _ _)))).node.here).mono ?_
            rintro e w9 ⟨u1, u2, rfl, hl9, ha9, hb9⟩
            obtain ⟨A3, cap3, e3⟩ := hl9.1.form
            rw [List.length_map] at e3
            subst e3
            have HN9 := Lib.hid (HN8.out.same (below_trans (Chg.below (by repeat (first | with_reducible exact Chg.refl _ _ | with_reducible exact chg0 | with_reducible refine Chg.drewN ?_ _ | with_reducible refine Chg.drew ?_ | with_reducible refine Chg.alloc ?_ _ | with_reducible refine Chg.setCell ?_ _ _ (by first | (simp; done) | omega | (simp; omega)) | with_reducible refine Chg.setBlock ?_ _ _ (by first | (simp; done) | omega | (simp; omega)) | exact Chg.refl _ _))) hb9))
            have hwW : w.heap.size ≤ W8.heap.size := HN8.out.node.below.size
            have HL9 := Lib.hid (show Own0 w w9 53 5 (.slice A3 LL.length cap3) (LL.map Line.cells) from ⟨hl9.1, fun j hj => Nat.le_trans hwW (hl9.2 j hj)⟩)
            clear hl9 ha9 hb9 HN8 HP hwW
            go_wp2_with fail
            go_loopg [149] LL.length (fun g i wx => ∃ (wz : World) (j : Nat) (oA : Obj) (fA : Int → Option Value) (fm : Int → Int), wx = wz ∧ j ≤ LL.length ∧ g = LL.length - j ∧ i = .int .i64 j ∧
              NdA w wz a n' F4 [(ab, oA), (tb, oT), (w.heap.size, cfgO c)] ∧ Own0 w wz 53 5 (.slice A3 LL.length cap3) (LL.map Line.cells) ∧ MapObj oA fA ∧ IntMap fm fA ∧ AllAt n' fm (LL.drop j))
            case atStart => exact ⟨_, 0, _, _, _, rfl, Nat.zero_le _, rfl, rfl, HN9.out, HL9.out, MapObj.empty 0, IntMap.empty, HAS.out⟩
            case round =>
              obtain ⟨wz, j3, oA, fA, fm, hwx, hj3, rfl, rfl, hN, hL, hOA, hBA, hA3⟩ := hrel
              replace hwx := hwx.symm
              subst hwx
              clear HN9 HL9 HAS
              have HN := Lib.hid hN
              have HL := Lib.hid hL
              have HOA := Lib.hid hOA
              have HBA := Lib.hid hBA
              have HA3 := Lib.hid hA3
              clear hN hOA hBA hA3
              by_cases hl3 : j3 < LL.length
              · obtain ⟨A5, s5, e7, _, _, hat⟩ := sliceOf (cells := Line.cells) hL.1.slice
                cases e7
                obtain ⟨qb, qo, e8, hr⟩ := hat (by omega)
                subst e8
                have hrow := hr j3 hl3
                obtain ⟨x, hx⟩ : ∃ x, x = LL[j3] := ⟨_, rfl⟩
                have hdrop : LL.drop j3 = x :: LL.drop (j3 + 1) := by rw [hx]; exact List.drop_eq_getElem_cons hl3
                rw [← hx] at hrow
                have HD := Lib.hid hdrop
                have HROW := Lib.hid hrow
                clear hr hrow hx hdrop hat hL
                go_upto_region 29 with fail
                go_cut [18] (fun s16 wx => s16 = .pointer (some ⟨wz.heap.size, 0, none⟩) ∧ ob wx wz.heap.size = some (lineO x) ∧ Below wz.heap.size wz wx)
                case first =>
                  have h18 : x.cells.toArray.size = 5 := rfl
                  have hone : x.cells.toArray.all (·.oneCell') = true := line_one x
                  have HFIN := Lib.hid (fun W : World => show ob (W.alloc (.cells x.cells.toArray 53)) W.heap.size = some (lineO x) from ob_alloc_at _ _)
                  have HR := HROW
                  generalize x.cells = CS at HR h18 hone HFIN
                  go_wp2_with (first | (refine wpList_load_row rfl 53 _ rfl qb (qo + j3 * 5) rfl CS HR.out (by kernel_rfl) (Eq.trans (by kernel_rfl : _ = some 5) (by simpa using h18.symm)) ?_) | (refine wpList_store_new rfl 53 _ _ rfl _ CS.toArray rfl rfl (Eq.trans (by kernel_rfl : _ = some 5) (by simpa using h18.symm)) (by simpa using h18.symm) hone ?_))
                  go_meet
                  exact ⟨rfl, HFIN.out _, Chg.below (by repeat (first | with_reducible exact Chg.refl _ _ | with_reducible exact chg0 | with_reducible refine Chg.drewN ?_ _ | with_reducible refine Chg.drew ?_ | with_reducible refine Chg.alloc ?_ _ | with_reducible refine Chg.setCell ?_ _ _ (by first | (simp; done) | omega | (simp; omega)) | with_reducible refine Chg.setBlock ?_ _ _ (by first | (simp; done) | omega | (simp; omega)) | exact Chg.refl _ _))⟩
                case rest =>
                obtain ⟨rfl, hA, hbA⟩ := hcut
                have HN6 := Lib.hid (HN.out.same hbA)
                have HL6 := Lib.hid (HL.out.step hbA)
                obtain ⟨x0, x1⟩ : wc.cell? ⟨wz.heap.size, 0, none⟩ = some (.int .i64 x.block) ∧ wc.cell? ⟨wz.heap.size, 1, none⟩ = some (.int .i64 x.tokens.count) := ⟨cell_ob hA 0, cell_ob hA 1⟩
                have lA := ob_lt hA
                have oT0 := HN6.out.head.1
                have lT := ob_lt oT0
                have hA3 := HA3.out
                rw [HD.out] at hA3
                have HA4 := Lib.hid hA3.next
                obtain ⟨oT2, hO2, hup⟩ := HOA.out.update tyIIn x.block (.int .i64 x.tokens.count) ab
                have hup2 := hup wc oT0
                have HO2 := Lib.hid hO2
                clear hA hbA HROW HN HL hA3 HA3 hO2 hup oT0
                go_wp2_with fail
                go_roundg (LL.length - (j3 + 1))
                case rel =>
                  exact ⟨_, j3 + 1, oT2, _, _, rfl, by omega, rfl, by go_num, HN6.out.put (by repeat (first | with_reducible exact Chg.refl _ _ | with_reducible exact chg0 | with_reducible refine Chg.drewN ?_ _ | with_reducible refine Chg.drew ?_ | with_reducible refine Chg.alloc ?_ _ | with_reducible refine Chg.setCell ?_ _ _ (by first | (simp; done) | omega | (simp; omega)) | with_reducible refine Chg.setBlock ?_ _ _ (by first | (simp; done) | omega | (simp; omega)) | exact Chg.refl _ _)) (by simp [go_sem, lT]) (by omega) (by intro p hp; simp only [List.mem_cons, List.not_mem_nil, or_false] at hp; rcases hp with rfl | rfl <;> (simp only; omega)),
                    HL6.out.atMap HN6.out.head.1 (by obtain ⟨es, cl, e, _⟩ := HOA.out; exact ⟨es, cl, e⟩) (by repeat (first | with_reducible exact Chg.refl _ _ | with_reducible exact chg0 | with_reducible refine Chg.drewN ?_ _ | with_reducible refine Chg.drew ?_ | with_reducible refine Chg.alloc ?_ _ | with_reducible refine Chg.setCell ?_ _ _ (by first | (simp; done) | omega | (simp; omega)) | with_reducible refine Chg.setBlock ?_ _ _ (by first | (simp; done) | omega | (simp; omega)) | exact Chg.refl _ _)), HO2.out, HBA.out.upd x.block x.tokens.count, HA4.out⟩
                case measure => omega
              · have hLj : LL.drop j3 = [] := List.drop_eq_nil_iff.2 (by omega)
                have hA3 := HA3.out
                rw [hLj] at hA3
                have HAL := Lib.hid hA3.over
                have oC : cfgOb wz w.heap.size c := (HN.out.aside (w.heap.size, cfgO c) (by simp)).1
                obtain ⟨c0, c1, c2, c3, c4, c5, c6, c7, c8, cf, cl⟩ := ob_cells9 oC
                have hbk := HF.out.blocks
                obtain ⟨B, hB⟩ : ∃ B : Nat, B = c.blocks.toNat := ⟨_, rfl⟩
                have hB2 : c.blocks = (B : Int) := by omega
                clear hA3 HA3 hL HL oC c0 c2 c3 c4 c5 c6 c7 c8
                rw [hB2] at c1
                have HB2 := Lib.hid (And.intro hB2 hbk)
                have hB64 : B ≤ 64 := by omega
                clear hB hB2 hbk
                go_wp2_with fail
                go_loopg [162] B (fun g i wx => ∃ (j : Nat), wx = wz ∧ j ≤ B ∧ g = B - j ∧ i = .int .i64 j)
                case atStart => exact ⟨0, rfl, Nat.zero_le _, rfl, rfl⟩
                case round =>
                  obtain ⟨j4, hwx, hj4, rfl, rfl⟩ := hrel
                  replace hwx := hwx.symm
                  subst hwx
                  by_cases hl4 : j4 < B
                  · have hk1 := HOA.out.lookup tyIIn (j4 : Int) _ _ HN.out.head.1
                    rw [HBA.out (j4 : Int), HAL.out] at hk1
                    have hk2 := HO.out.lookup tyIIn (j4 : Int) _ _ (HN.out.aside (tb, oT) (by simp)).1
                    rw [HB.out (j4 : Int), HTH.out] at hk2
                    generalize (n'.cache.tok (j4 : Int)).count = cn at hk1 hk2
                    go_wp2_with fail
                    go_roundg (B - (j4 + 1))
                    case rel => exact ⟨j4 + 1, rfl, by omega, rfl, by go_num⟩
                    case measure => omega
                  · have hj4e : j4 = B := by omega
                    go_wp2_with fail
                    go_roundg (l.length - (k + 1))
                    case rel => exact ⟨_, k + 1, n', F4, th, oT, f, rfl, by omega, rfl, by go_num, NdA.sub (As := [(ab, oA), (tb, oT), (w.heap.size, cfgO c)]) (HN.out.same (Chg.below (by repeat (first | with_reducible exact Chg.refl _ _ | with_reducible exact chg0 | with_reducible refine Chg.drewN ?_ _ | with_reducible refine Chg.drew ?_ | with_reducible refine Chg.alloc ?_ _ | with_reducible refine Chg.setCell ?_ _ _ (by first | (simp; done) | omega | (simp; omega)) | with_reducible refine Chg.setBlock ?_ _ _ (by first | (simp; done) | omega | (simp; omega)) | exact Chg.refl _ _)))) (by simp), HR.out, HO.out, HB.out, HTH.out⟩
                    case measure => omega
      · go_wp2_with fail
        go_ret
        exact ⟨rfl, below_trans HN.out.node.below (Chg.below (by repeat (first | with_reducible exact Chg.refl _ _ | with_reducible exact chg0 | with_reducible refine Chg.drewN ?_ _ | with_reducible refine Chg.drew ?_ | with_reducible refine Chg.alloc ?_ _ | with_reducible refine Chg.setCell ?_ _ _ (by first | (simp; done) | omega | (simp; omega)) | with_reducible refine Chg.setBlock ?_ _ _ (by first | (simp; done) | omega | (simp; omega)) | exact Chg.refl _ _)))⟩
  · have HMN := Lib.hid (fun V => made15_no c id A l.length cap V hf)
    simp only [Config.val, Config.cells] at HMN ⊢
    clear hf
    go_enter Tryz.func6, Tryz.ntmps6
    go_wp2_with fail
    refine (HMN.out _).mono ?_
    rintro e w1 ⟨rfl, hb1⟩
    have HB1 := Lib.hid (show Below w.heap.size w w1 from below_trans (Chg.below (by repeat (first | with_reducible exact Chg.refl _ _ | with_reducible exact chg0 | with_reducible refine Chg.drewN ?_ _ | with_reducible refine Chg.drew ?_ | with_reducible refine Chg.alloc ?_ _ | with_reducible refine Chg.setCell ?_ _ _ (by first | (simp; done) | omega | (simp; omega)) | with_reducible refine Chg.setBlock ?_ _ _ (by first | (simp; done) | omega | (simp; omega)) | exact Chg.refl _ _))) hb1)
    clear hb1
    go_wp2_with fail
    refine (ndAwake_calls _).mono ?_
    rintro e w2 ⟨rfl, hb2⟩
    go_wp2_with fail
    refine (ndAwake_calls _).mono ?_
    rintro e w3 ⟨rfl, hb3⟩
    go_wp2_with fail
    go_ret
    exact ⟨rfl, below_trans HB1.out (below_trans (below_trans (Chg.below (by repeat (first | with_reducible exact Chg.refl _ _ | with_reducible exact chg0 | with_reducible refine Chg.drewN ?_ _ | with_reducible refine Chg.drew ?_ | with_reducible refine Chg.alloc ?_ _ | with_reducible refine Chg.setCell ?_ _ _ (by first | (simp; done) | omega | (simp; omega)) | with_reducible refine Chg.setBlock ?_ _ _ (by first | (simp; done) | omega | (simp; omega)) | exact Chg.refl _ _))) hb2) (below_trans (Chg.below (by repeat (first | with_reducible exact Chg.refl _ _ | with_reducible exact chg0 | with_reducible refine Chg.drewN ?_ _ | with_reducible refine Chg.drew ?_ | with_reducible refine Chg.alloc ?_ _ | with_reducible refine Chg.setCell ?_ _ _ (by first | (simp; done) | omega | (simp; omega)) | with_reducible refine Chg.setBlock ?_ _ _ (by first | (simp; done) | omega | (simp; omega)) | exact Chg.refl _ _))) hb3))⟩
set_option maxRecDepth 100000 in
theorem nodeSums_lifted (os : Os) (started : os.Started) (H : Type) (enc : TypeId × Value → H) :
    ReturnsInHanded {} Tryz.checked os 6 .any (Rows.nodeSumsSpec.pre6 enc Tryz.prog Tryz.f6 Rows.nodeSumsRow.domain false) (Rows.nodeSumsSpec.post enc Tryz.prog Tryz.f6 false true false false) := by
  refine returnsInHanded_of_change (C := Tryz.checked) law_own started (by kernel_rfl) Tryz.func6
    (ChangeSpec.witness6 (enc := enc) (C := Tryz.checked) false ⟨#[], #[.agg #[.int .i64 0, .int .i64 0, .int .i64 0, .int .i64 0, .int .i64 0, .int .i64 0, .int .i64 0, .int .i64 0, .int .i64 0], .int .i64 0, .slice none 0 0], []⟩ 8 (by kernel_rfl) (by kernel_rfl) (by kernel_rfl) (by kernel_rfl)) ?_
  intro W base args ds gs before hval0 hW hcnd _
  have hval : ∀ (j : Nat) t v, Tryz.f6.params[j]? = some t → args[j]? = some v → Value.okWide Tryz.prog W .any base t v := hval0
  have hW' := hW
  obtain ⟨p, q, hA0, hV, rfl, hfz, hnd⟩ := hW
  have hA : DataW.TrodAll enc Tryz.prog W 0 (fun _ => true) true Tryz.f6.params.toList args.toList ds p := hA0
  rw [Tryz.params6] at hA hval
  obtain ⟨v0, vs0, d0, ds0, p0, q0, hargs, rfl, rfl, h0, r0⟩ := trodAll_cons hA
  obtain ⟨v1, vs1, d1, ds1, p1, q1, rfl, rfl, rfl, h1, r1⟩ := trodAll_cons r0
  obtain ⟨v2, vs2, d2, ds2, p2, q2, rfl, rfl, rfl, h2, r2⟩ := trodAll_cons r1
  obtain ⟨rfl, rfl, rfl⟩ := trodAll_nil r2
  obtain rfl : args = #[v0, v1, v2] := by cases args; simp_all
  obtain ⟨rfl, rfl⟩ := trodVars_none hV
  have k0 := h0
  have lt0 : ∀ x ∈ p0, x.block < W.heap.size := by obtain ⟨m, hm⟩ := k0; exact DataW.trod_lt m _ _ _ hm
  obtain ⟨f0, g0⟩ := h0
  obtain ⟨cs0, rfl, _⟩ := okWide_struct Tryz.underlying23 (hval 0 23 v0 rfl rfl)
  obtain ⟨x0, e0, o0⟩ := Config.of_trod g0
  obtain rfl : cs0 = x0.cells.toArray := by simp only [Value.cells] at e0; rw [← e0]
  have k1 := h1
  have lt1 : ∀ x ∈ p1, x.block < W.heap.size := by obtain ⟨m, hm⟩ := k1; exact DataW.trod_lt m _ _ _ hm
  obtain ⟨f1, g1⟩ := h1
  obtain ⟨x1, e1, o1⟩ := int_of_trod g1
  obtain rfl := one_value (hval 1 3 v1 rfl rfl) Tryz.underlying3 e1
  have k2 := h2
  have lt2 : ∀ x ∈ p2, x.block < W.heap.size := by obtain ⟨m, hm⟩ := k2; exact DataW.trod_lt m _ _ _ hm
  obtain ⟨f2, g2⟩ := h2
  obtain ⟨l2, s2, o2⟩ := slice_of_trod (sz := 18) (cells := Act15.cells) (ok := Act15.ok) Tryz.underlying26 (by kernel_rfl) (by decide) (fun _ => rfl) Act15.of_trod g2 (okWide_slice Tryz.underlying26 (hval 2 26 v2 rfl rfl))
  clear hA0 hval0
  refine (nodeSums_walk x0 o0 x1 o1 l2 v2 W s2 o2).mono fun e W' ⟨he, bel⟩ => ?_
  subst he
  exact ⟨_, rfl, _, _, _, [], _, [], hW', trodAll_mk1 (shut_bool Tryz.underlying4 _), (trodAll_cons_mk (Below.trod law_laidOut (by kernel_rfl) (of_decide_eq_true (by kernel_rfl)) k0 bel lt0) (trodAll_cons_mk (Below.trod law_laidOut (by kernel_rfl) (of_decide_eq_true (by kernel_rfl)) k1 bel lt1) (trodAll_cons_mk (Below.trod law_laidOut (by kernel_rfl) (of_decide_eq_true (by kernel_rfl)) k2 bel lt2) trodAll_mk0))), rfl, bel.frame _, fun h => by cases h⟩

theorem nodeSums_holds : Rows.NodeSumsSaid :=
  OpenClaim.holds_of_wide 6 Tryz.f6 rfl rfl rfl rfl rfl rfl rfl ⟨rfl, rfl, rfl, rfl, rfl⟩ rfl rfl rfl rfl rfl (by kernel_rfl) Tryz.func6 (by kernel_rfl)
    (of_decide_eq_true (by kernel_rfl)) (by unfold Func.isWrapper; first | (rw [if_pos (by decide +kernel)]; kernel_rfl) | (rw [if_neg (by decide +kernel)]; exact ⟨rfl, rfl⟩))
    (fun os started H enc _ => nodeSums_lifted os started H enc)
end Go.Proofs.YtchlioikkhnidaaGreat
