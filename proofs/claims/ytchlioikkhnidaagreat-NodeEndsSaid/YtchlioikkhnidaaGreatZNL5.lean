/-
  NodeEnds: the end of each request of its own is told once: with its operation's end, or at once, if it waits for none on that block; and each LDeactivate is acknowledged. No condition.
-/
import Derived.Test.YtchlioikkhnidaaGreatMN15
import Derived.Test.YtchlioikkhnidaaGreatMN14
set_option linter.unusedVariables false
set_option linter.unusedSimpArgs false
namespace Go.Proofs.YtchlioikkhnidaaGreat
open Go.RowKit Go.Sort Go.ChangeShapes Go.WideShapes Go.ChangeAt
open Go.ChangeMaps (setBlock)
set_option linter.unusedVariables false
set_option linter.unusedSimpArgs false
def BoolPair (T : Int → Int → Bool) (f : Int × Int → Option Value) : Prop := ∀ k, (f k).getD (.bool false) = .bool (T k.1 k.2)
theorem BoolPair.empty : BoolPair (fun _ _ => false) (fun _ => none) := fun _ => rfl
theorem BoolPair.put {T : Int → Int → Bool} {f : Int × Int → Option Value} (h : BoolPair T f) (b s : Int) : BoolPair (toldPut T b s) (upd2 f (b, s) (.bool true)) := fun k => by
  obtain ⟨i, j⟩ := k
  unfold upd2 toldPut
  by_cases e : i = b ∧ j = s
  · rw [if_pos (by rw [e.1, e.2]), if_pos e]; rfl
  · rw [if_neg (fun e2 => e (by simpa using e2)), if_neg e]; exact h (i, j)
theorem tyTold : PairTy Tryz.prog 71 72 3 4 (.bool false) := ⟨Tryz.underlying71, Tryz.underlying72, Tryz.underlying3, info_of_underlying Tryz.underlying3, by kernel_rfl, fun _ => by kernel_rfl⟩
set_option maxHeartbeats 8000000 in
set_option maxRecDepth 20000 in
theorem nodeEnds_walk (c : Config) (hc : c.ok) (id : Int) (hi : i64ok id) (l : List Act15) (v : Value) (w : World) (hsl : SliceIs w 18 v (l.map Act15.cells)) (hok : ∀ d ∈ l, d.ok) :
    Calls Tryz.prog 8 #[c.val, .int .i64 id, v] w fun e w' => e = .returned (.bool true) ∧ Below w.heap.size w w' := by
  have HSL := Lib.hid hsl
  obtain ⟨A, cap, rfl, h1, h2, h3⟩ := hsl
  simp only [List.length_map] at h1 h2 h3 HSL ⊢
  have H3 := Lib.hid h3
  clear h3 hok hc
  by_cases hf : c.Fine ∧ (0 ≤ id ∧ id < c.nodes) ∧ l.length ≤ 200
  · have HF := Lib.hid hf.1
    have HID := Lib.hid hf.2.1
    have hlen := hf.2.2
    have HMY := Lib.hid (fun V => made15_yes c id A l.length cap V hf.1 hf.2.1 hf.2.2)
    simp only [Config.val, Config.cells] at HMY ⊢
    clear hf
    go_enter Tryz.func8, Tryz.ntmps8
    go_wp2_with fail
    refine (HMY.out _).mono ?_
    rintro e w1 ⟨a, FC, m, wm, rfl, hN, _, _, _, _⟩
    have oC : cfgOb w1 w.heap.size c := ob_step hN.below (by simp [go_sem])
    have HLOW := Lib.hid (show ∀ j, nFp a FC j → w.heap.size + 1 ≤ j from fun j hj => by have := hN.low j hj; simp at this; omega)
    have HN1 := Lib.hid (show NdA w w1 a (Node.new c id) FC [(w.heap.size, cfgO c)] from (NdA.nil (hN.base (Chg.below (by repeat (first | with_reducible exact Chg.refl _ _ | with_reducible exact chg0 | with_reducible refine Chg.drewN ?_ _ | with_reducible refine Chg.drew ?_ | with_reducible refine Chg.alloc ?_ _ | with_reducible refine Chg.setCell ?_ _ _ (by first | (simp; done) | omega | (simp; omega)) | with_reducible refine Chg.setBlock ?_ _ _ (by first | (simp; done) | omega | (simp; omega)) | exact Chg.refl _ _))))).cons oC (fun hf => by have := HLOW.out _ hf; omega))
    clear hN oC HMY
    go_wp2_with fail
    refine (ndAwake_calls _).mono ?_
    rintro e w2 ⟨rfl, hb2⟩
    have HN2 := Lib.hid (HN1.out.same (below_trans (Chg.below (by repeat (first | with_reducible exact Chg.refl _ _ | with_reducible exact chg0 | with_reducible refine Chg.drewN ?_ _ | with_reducible refine Chg.drew ?_ | with_reducible refine Chg.alloc ?_ _ | with_reducible refine Chg.setCell ?_ _ _ (by first | (simp; done) | omega | (simp; omega)) | with_reducible refine Chg.setBlock ?_ _ _ (by first | (simp; done) | omega | (simp; omega)) | exact Chg.refl _ _))) hb2))
    clear hb2 HN1 HLOW
    have hmm := @run_makeMap Tryz.prog
    have tb0 : w2.heap.size = w2.heap.size := rfl
    go_wp2_with fail
    have HT0 := Lib.hid (show NdA w (w2.alloc (.map #[] 0)) a (Node.new c id) FC [(w2.heap.size, .map #[] 0), (w.heap.size, cfgO c)] from HN2.out.add (Chg.below (by repeat (first | with_reducible exact Chg.refl _ _ | with_reducible exact chg0 | with_reducible refine Chg.drewN ?_ _ | with_reducible refine Chg.drew ?_ | with_reducible refine Chg.alloc ?_ _ | with_reducible refine Chg.setCell ?_ _ _ (by first | (simp; done) | omega | (simp; omega)) | with_reducible refine Chg.setBlock ?_ _ _ (by first | (simp; done) | omega | (simp; omega)) | exact Chg.refl _ _))) (by simp [go_sem]) (Nat.le_refl _))
    obtain ⟨tb, htb⟩ : ∃ tb, tb = w2.heap.size := ⟨_, rfl⟩
    have hwt : w.heap.size < tb := by have h1 := HN2.out.head.1; have h2 := ob_lt h1; omega
    obtain ⟨w3, hw3⟩ : ∃ w3, w3 = w2.alloc (.map #[] 0) := ⟨_, rfl⟩
    rw [← htb, ← hw3] at HT0
    simp only [← htb, ← hw3]
    clear htb hw3 HN2 tb0
    go_loopg [35] l.length (fun g i wx => ∃ (wr : World) (k : Nat) (n : Node) (F : Nat → Prop) (T : Int → Int → Bool) (oT : Obj) (f : Int × Int → Option Value), wx = wr ∧ k ≤ l.length ∧ g = l.length - k ∧ i = .int .i64 k ∧
      NdA w wr a n F [(tb, oT), (w.heap.size, cfgO c)] ∧ (n.Runs k ∧ n.c = c ∧ n.id = id) ∧ PairObj oT f ∧ BoolPair T f ∧ ∀ b s, T b s = true → s ≤ n.told b)
    case atStart => exact ⟨_, 0, _, _, _, _, _, rfl, Nat.zero_le _, rfl, rfl, HT0.out, ⟨Node.Runs.new c id, rfl, rfl⟩, PairObj.empty 0, BoolPair.empty, by simp⟩
    case round =>
      obtain ⟨wr, k, n, F, T, oT, f, rfl, hk, rfl, rfl, hN, hR, hO, hB, hT⟩ := hrel
      clear HT0
      have HN := Lib.hid hN
      have HR := Lib.hid hR
      have HO := Lib.hid hO
      have HB := Lib.hid hB
      have HT := Lib.hid hT
      clear hN hR hO hB hT
      by_cases hlt : k < l.length
      · obtain ⟨q, off, rfl, hrows⟩ := H3.out (by omega)
        have hrow := act15At hrows HN.out.node.below hlt
        generalize l[k] = d at hrow
        have HROW := Lib.hid hrow
        clear hrow hrows
        go_upto_region 7 with fail
        go_cut [12] (fun s12 wx => s12 = .pointer (some ⟨wr.heap.size, 0, none⟩) ∧ ob wx wr.heap.size = some (actO d) ∧ Below wr.heap.size wr wx)
        case first =>
          have h18 : d.cells.toArray.size = 18 := rfl
          have hone : d.cells.toArray.all (·.oneCell') = true := all_oneCell_toArray (by intro v hv; simp only [Act15.cells, List.mem_cons, List.not_mem_nil, or_false] at hv; rcases hv with rfl | rfl | rfl | rfl | rfl | rfl | rfl | rfl | rfl | rfl | rfl | rfl | rfl | rfl | rfl | rfl | rfl | rfl <;> rfl)
          have HFIN := Lib.hid (fun W : World => show ob (W.alloc (.cells d.cells.toArray 46)) W.heap.size = some (actO d) from ob_alloc_at _ _)
          have HR := HROW
          generalize d.cells = CS at HR h18 hone HFIN
          go_wp2_with (first | (refine wpList_load_row rfl 46 _ rfl q (off + k * 18) rfl CS HR.out (by kernel_rfl) (Eq.trans (by kernel_rfl : _ = some 18) (by simpa using h18.symm)) ?_) | (refine wpList_store_new rfl 46 _ _ rfl _ CS.toArray rfl rfl (Eq.trans (by kernel_rfl : _ = some 18) (by simpa using h18.symm)) (by simpa using h18.symm) hone ?_))
          go_meet
          exact ⟨rfl, HFIN.out _, Chg.below (by repeat (first | with_reducible exact Chg.refl _ _ | with_reducible exact chg0 | with_reducible refine Chg.drewN ?_ _ | with_reducible refine Chg.drew ?_ | with_reducible refine Chg.alloc ?_ _ | with_reducible refine Chg.setCell ?_ _ _ (by first | (simp; done) | omega | (simp; omega)) | with_reducible refine Chg.setBlock ?_ _ _ (by first | (simp; done) | omega | (simp; omega)) | exact Chg.refl _ _))⟩
        case rest =>
        obtain ⟨rfl, hA, hbA⟩ := hcut
        have HN2 := Lib.hid (HN.out.add hbA hA (Nat.le_refl _))
        obtain ⟨b1, hb1⟩ : ∃ b1, b1 = wr.heap.size := ⟨_, rfl⟩
        have hwb : w.heap.size < b1 := by have h1 := HN.out.head.1; have h2 := ob_lt h1; omega
        have htb1 : tb < b1 := by have h1 := HN.out.head.1; have h2 := ob_lt h1; omega
        rw [← hb1] at HN2
        simp only [← hb1]
        clear hA hbA HROW HN hb1
        obtain ⟨_, _, _, x0⟩ := actO_range HN2.out.head.1
        have lA := ob_lt HN2.out.head.1
        go_upto_block 2 with fail
        have HN3 := Lib.hid (show NdA w (wc.alloc (.cells #[.slice none 0 0, .slice none 0 0] 35)) a n F [(wc.heap.size, outO (.slice none 0 0) (.slice none 0 0)), (b1, actO d), (tb, oT), (w.heap.size, cfgO c)] from HN2.out.add (Chg.below (by repeat (first | with_reducible exact Chg.refl _ _ | with_reducible exact chg0 | with_reducible refine Chg.drewN ?_ _ | with_reducible refine Chg.drew ?_ | with_reducible refine Chg.alloc ?_ _ | with_reducible refine Chg.setCell ?_ _ _ (by first | (simp; done) | omega | (simp; omega)) | with_reducible refine Chg.setBlock ?_ _ _ (by first | (simp; done) | omega | (simp; omega)) | exact Chg.refl _ _))) (by simp [go_sem, outO]) (Nat.le_refl _))
        obtain ⟨b2, hb2⟩ : ∃ b2, b2 = wc.heap.size := ⟨_, rfl⟩
        obtain ⟨V, hV⟩ : ∃ V, V = wc.alloc (.cells #[.slice none 0 0, .slice none 0 0] 35) := ⟨_, rfl⟩
        have hb12 : b1 < b2 := by omega
        rw [← hb2, ← hV] at HN3
        simp only [← hb2, ← hV]
        clear x0 lA HN2 hb2 hV
        obtain ⟨n', L, D, hst⟩ : ∃ n' L D, (n', L, D) = n.step d := ⟨_, _, _, rfl⟩
        have HST := Lib.hid hst
        clear hst
        go_cut [14] (fun s14 wx => ∃ F' v1 v2, s14 = .int .i64 (n.acks d : Int) ∧ NdA w wx a n' F' [(b2, outO v1 v2), (b1, actO d), (tb, oT), (w.heap.size, cfgO c)] ∧ Own0 w wx 44 11 v1 (L.map Letter.cells))
        case first =>
          obtain ⟨rOp, rLt, rDr, x0⟩ := actO_range (HN3.out.aside (b1, actO d) (by simp)).1
          by_cases q1 : d.kind = 1
          · have q1' : (d.kind == 1) = true := by simpa using q1
            have hHT := fun (V : World) (hV : NodeIn V a n F) => NodeIssue_calls d.op d.draws hV (HR.out.1.bound (by omega)).1
            have hst := HST.out
            have hack : n.acks d = 0 := by unfold Node.acks; rw [if_neg (fun h => by omega)]
            unfold Node.step at hst
            rw [if_pos q1] at hst
            obtain ⟨⟨m1, m2, m3, m4⟩, hm⟩ : ∃ m, m = n.issue d.op d.draws := ⟨_, rfl⟩
            simp only [← hm] at hst hHT
            obtain ⟨rfl, rfl, rfl⟩ : n' = m1 ∧ L = m2 ∧ D = m3 := by simpa using hst
            have HHT := Lib.hid hHT
            have HACK := Lib.hid hack
            clear hst hHT hm hack q1
            generalize d.op = op at rOp HHT
            generalize d.draws = dr at rDr HHT
            go_wp2_with (first | (refine wpList_load_row rfl 25 _ rfl b1 1 rfl op.cells rOp (by kernel_rfl) (by kernel_rfl) ?_) | (refine wpList_load_row rfl 38 _ rfl b1 15 rfl dr.cells rDr (by kernel_rfl) (by kernel_rfl) ?_))
            refine (HHT.out _ HN3.out.node.here).mono ?_
            rintro e w4 ⟨FC4, u1, u2, rfl, hs4⟩
            obtain ⟨B1, i1, s1, e1⟩ := hs4.letters.shape
            obtain ⟨B2, i2, s2, e2⟩ := hs4.done.shape
            subst e1
            subst e2
            have HN4 := Lib.hid (HN3.out.sent hs4)
            have HO4 := Lib.hid (HN3.out.node.outs hs4).1
            obtain ⟨z0, z1, zf, lz⟩ := outO_cells HN4.out.head.1
            clear hs4
            go_wp2_with fail
            go_meet
            refine ⟨FC4, .slice B1 i1 s1, .slice B2 i2 s2, by rw [HACK.out]; rfl, HN4.out.put (by repeat (first | with_reducible exact Chg.refl _ _ | with_reducible exact chg0 | with_reducible refine Chg.drewN ?_ _ | with_reducible refine Chg.drew ?_ | with_reducible refine Chg.alloc ?_ _ | with_reducible refine Chg.setCell ?_ _ _ (by first | (simp; done) | omega | (simp; omega)) | with_reducible refine Chg.setBlock ?_ _ _ (by first | (simp; done) | omega | (simp; omega)) | exact Chg.refl _ _)) ?_ (by omega) ?_, HO4.out.at HN4.out.head.1 (by decide) (by repeat (first | with_reducible exact Chg.refl _ _ | with_reducible exact chg0 | with_reducible refine Chg.drewN ?_ _ | with_reducible refine Chg.drew ?_ | with_reducible refine Chg.alloc ?_ _ | with_reducible refine Chg.setCell ?_ _ _ (by first | (simp; done) | omega | (simp; omega)) | with_reducible refine Chg.setBlock ?_ _ _ (by first | (simp; done) | omega | (simp; omega)) | exact Chg.refl _ _))⟩
            · have ho := HN4.out.head.1
              simp only [outO] at ho
              simp [go_sem, ho, lz, setAt, outO]
              done
            · intro p hp; simp only [List.mem_cons, List.not_mem_nil, or_false] at hp; rcases hp with rfl | rfl | rfl <;> (simp only; omega)
          have q1' : (d.kind == 1) = false := by simpa using q1
          by_cases q2 : d.kind = 2
          · have q2' : (d.kind == 2) = true := by simpa using q2
            have hHT := fun (V : World) (hV : NodeIn V a n F) => NodeTake_calls d.letter d.draws hV (HR.out.1.bound (by omega)).2
            have hst := HST.out
            have hack : n.acks d = if d.letter.kind = 6 ∧ d.letter.dst = id ∧ d.letter.legal c = true then 1 else 0 := by unfold Node.acks; rw [HR.out.2.1, HR.out.2.2]; simp only [q2, true_and]
            have HACK := Lib.hid hack
            have HCK := Lib.hid (fun (V : World) => RefLCheck_calls c d.letter V)
            unfold Node.step at hst
            rw [if_neg q1, if_pos q2] at hst
            obtain ⟨⟨m1, m2, m3⟩, hm⟩ : ∃ m, m = n.take d.letter d.draws := ⟨_, rfl⟩
            simp only [← hm] at hst hHT
            obtain ⟨rfl, rfl, rfl⟩ : n' = m1 ∧ L = m2 ∧ D = m3 := by simpa using hst
            have HHT := Lib.hid hHT
            clear hst hHT hm hack q1 q2
            go_upto_region 14 with fail
            go_cut [] (fun wx => ∃ F' v1 v2, NdA w wx a n' F' [(b2, outO v1 v2), (b1, actO d), (tb, oT), (w.heap.size, cfgO c)] ∧ Own0 w wx 44 11 v1 (L.map Letter.cells))
            case first =>
              generalize d.letter = lt at rLt HHT
              generalize d.draws = dr at rDr HHT
              go_wp2_with (first | (refine wpList_load_row rfl 44 _ rfl b1 4 rfl lt.cells rLt (by kernel_rfl) (by kernel_rfl) ?_) | (refine wpList_load_row rfl 38 _ rfl b1 15 rfl dr.cells rDr (by kernel_rfl) (by kernel_rfl) ?_))
              refine (HHT.out _ HN3.out.node.here).mono ?_
              rintro e w4 ⟨FC4, u1, u2, rfl, hs4⟩
              obtain ⟨B1, i1, s1, e1⟩ := hs4.letters.shape
              obtain ⟨B2, i2, s2, e2⟩ := hs4.done.shape
              subst e1
              subst e2
              have HN4 := Lib.hid (HN3.out.sent hs4)
              have HO4 := Lib.hid (HN3.out.node.outs hs4).1
              obtain ⟨z0, z1, zf, lz⟩ := outO_cells HN4.out.head.1
              clear hs4
              go_wp2_with fail
              go_meet
              refine ⟨FC4, .slice B1 i1 s1, .slice B2 i2 s2, HN4.out.put (by repeat (first | with_reducible exact Chg.refl _ _ | with_reducible exact chg0 | with_reducible refine Chg.drewN ?_ _ | with_reducible refine Chg.drew ?_ | with_reducible refine Chg.alloc ?_ _ | with_reducible refine Chg.setCell ?_ _ _ (by first | (simp; done) | omega | (simp; omega)) | with_reducible refine Chg.setBlock ?_ _ _ (by first | (simp; done) | omega | (simp; omega)) | exact Chg.refl _ _)) ?_ (by omega) ?_, HO4.out.at HN4.out.head.1 (by decide) (by repeat (first | with_reducible exact Chg.refl _ _ | with_reducible exact chg0 | with_reducible refine Chg.drewN ?_ _ | with_reducible refine Chg.drew ?_ | with_reducible refine Chg.alloc ?_ _ | with_reducible refine Chg.setCell ?_ _ _ (by first | (simp; done) | omega | (simp; omega)) | with_reducible refine Chg.setBlock ?_ _ _ (by first | (simp; done) | omega | (simp; omega)) | exact Chg.refl _ _))⟩
              · have ho := HN4.out.head.1
                simp only [outO] at ho
                simp [go_sem, ho, lz, setAt, outO]
                done
              · intro p hp; simp only [List.mem_cons, List.not_mem_nil, or_false] at hp; rcases hp with rfl | rfl | rfl <;> (simp only; omega)
            case rest =>
            obtain ⟨F4, v1, v2, hN4, hO4⟩ := hcut
            have HN4 := Lib.hid hN4
            have HO4 := Lib.hid hO4
            clear rOp rLt rDr x0 hN4 hO4 HHT HN3
            have oA := (HN4.out.aside (b1, actO d) (by simp)).1
            obtain ⟨_, rLt, _, _⟩ := actO_range oA
            obtain ⟨x4, x5, x6, x7, x8, x9, x10, x11, x12, x13, x14⟩ : wc.cell? ⟨b1, 4, none⟩ = some (.int .i64 d.letter.kind) ∧ wc.cell? ⟨b1, 5, none⟩ = some (.int .i64 d.letter.src) ∧ wc.cell? ⟨b1, 6, none⟩ = some (.int .i64 d.letter.dst) ∧ wc.cell? ⟨b1, 7, none⟩ = some (.int .i64 d.letter.block) ∧ wc.cell? ⟨b1, 8, none⟩ = some (.int .i64 d.letter.seq) ∧ wc.cell? ⟨b1, 9, none⟩ = some (.int .i64 d.letter.who) ∧ wc.cell? ⟨b1, 10, none⟩ = some (.bool d.letter.write) ∧ wc.cell? ⟨b1, 11, none⟩ = some (.int .i64 d.letter.tokens.count) ∧ wc.cell? ⟨b1, 12, none⟩ = some (.bool d.letter.tokens.owner) ∧ wc.cell? ⟨b1, 13, none⟩ = some (.bool d.letter.tokens.has) ∧ wc.cell? ⟨b1, 14, none⟩ = some (.int .i64 d.letter.tokens.data) := ⟨cell_ob oA 4, cell_ob oA 5, cell_ob oA 6, cell_ob oA 7, cell_ob oA 8, cell_ob oA 9, cell_ob oA 10, cell_ob oA 11, cell_ob oA 12, cell_ob oA 13, cell_ob oA 14⟩
            have lA := ob_lt oA
            have oC : cfgOb wc w.heap.size c := (HN4.out.aside (w.heap.size, cfgO c) (by simp)).1
            obtain ⟨c0, c1, c2, c3, c4, c5, c6, c7, c8, cf, cl⟩ := ob_cells9 oC
            clear oA oC
            by_cases q6 : d.letter.kind = 6
            · have q6' : (d.letter.kind == 6) = true := by simpa using q6
              by_cases qd : d.letter.dst = id
              · have qd' : (d.letter.dst == id) = true := by simpa using qd
                simp only [Config.val, Config.cells, Letter.val, Letter.cells] at HCK
                have hack2 : n.acks d = if d.letter.err c = 0 then 1 else 0 := by rw [HACK.out]; simp only [q6, qd, true_and, Letter.legal, decide_eq_true_eq]
                have HACK2 := Lib.hid hack2
                clear hack2 q6 qd HACK rLt
                generalize d.letter.err c = er at HCK HACK2
                go_wp2_with fail
                refine (HCK.out _).mono ?_
                rintro e w5 ⟨rfl, hb5⟩
                have HN5 := Lib.hid (HN4.out.same (below_trans (Chg.below (by repeat (first | with_reducible exact Chg.refl _ _ | with_reducible exact chg0 | with_reducible refine Chg.drewN ?_ _ | with_reducible refine Chg.drew ?_ | with_reducible refine Chg.alloc ?_ _ | with_reducible refine Chg.setCell ?_ _ _ (by first | (simp; done) | omega | (simp; omega)) | with_reducible refine Chg.setBlock ?_ _ _ (by first | (simp; done) | omega | (simp; omega)) | exact Chg.refl _ _))) hb5))
                have HO5 := Lib.hid (HO4.out.step (below_trans (Chg.below (by repeat (first | with_reducible exact Chg.refl _ _ | with_reducible exact chg0 | with_reducible refine Chg.drewN ?_ _ | with_reducible refine Chg.drew ?_ | with_reducible refine Chg.alloc ?_ _ | with_reducible refine Chg.setCell ?_ _ _ (by first | (simp; done) | omega | (simp; omega)) | with_reducible refine Chg.setBlock ?_ _ _ (by first | (simp; done) | omega | (simp; omega)) | exact Chg.refl _ _))) hb5))
                clear hb5 HN4 HO4
                by_cases qe : er = 0
                · have qe' : (er == 0) = true := by simpa using qe
                  go_wp2_with fail
                  go_meet
                  exact ⟨F4, v1, v2, by rw [HACK2.out, if_pos qe]; rfl, HN5.out.same (Chg.below (by repeat (first | with_reducible exact Chg.refl _ _ | with_reducible exact chg0 | with_reducible refine Chg.drewN ?_ _ | with_reducible refine Chg.drew ?_ | with_reducible refine Chg.alloc ?_ _ | with_reducible refine Chg.setCell ?_ _ _ (by first | (simp; done) | omega | (simp; omega)) | with_reducible refine Chg.setBlock ?_ _ _ (by first | (simp; done) | omega | (simp; omega)) | exact Chg.refl _ _))), HO5.out.step (Chg.below (by repeat (first | with_reducible exact Chg.refl _ _ | with_reducible exact chg0 | with_reducible refine Chg.drewN ?_ _ | with_reducible refine Chg.drew ?_ | with_reducible refine Chg.alloc ?_ _ | with_reducible refine Chg.setCell ?_ _ _ (by first | (simp; done) | omega | (simp; omega)) | with_reducible refine Chg.setBlock ?_ _ _ (by first | (simp; done) | omega | (simp; omega)) | exact Chg.refl _ _)))⟩
                · have qe' : (er == 0) = false := by simpa using qe
                  go_wp2_with fail
                  go_meet
                  exact ⟨F4, v1, v2, by rw [HACK2.out, if_neg qe]; rfl, HN5.out.same (Chg.below (by repeat (first | with_reducible exact Chg.refl _ _ | with_reducible exact chg0 | with_reducible refine Chg.drewN ?_ _ | with_reducible refine Chg.drew ?_ | with_reducible refine Chg.alloc ?_ _ | with_reducible refine Chg.setCell ?_ _ _ (by first | (simp; done) | omega | (simp; omega)) | with_reducible refine Chg.setBlock ?_ _ _ (by first | (simp; done) | omega | (simp; omega)) | exact Chg.refl _ _))), HO5.out.step (Chg.below (by repeat (first | with_reducible exact Chg.refl _ _ | with_reducible exact chg0 | with_reducible refine Chg.drewN ?_ _ | with_reducible refine Chg.drew ?_ | with_reducible refine Chg.alloc ?_ _ | with_reducible refine Chg.setCell ?_ _ _ (by first | (simp; done) | omega | (simp; omega)) | with_reducible refine Chg.setBlock ?_ _ _ (by first | (simp; done) | omega | (simp; omega)) | exact Chg.refl _ _)))⟩
              · have qd' : (d.letter.dst == id) = false := by simpa using qd
                have hack2 : n.acks d = 0 := by rw [HACK.out, if_neg (fun h => qd h.2.1)]
                have HACK2 := Lib.hid hack2
                clear hack2 q6 qd HACK rLt
                go_wp2_with fail
                go_meet
                exact ⟨F4, v1, v2, by rw [HACK2.out]; rfl, HN4.out.same (Chg.below (by repeat (first | with_reducible exact Chg.refl _ _ | with_reducible exact chg0 | with_reducible refine Chg.drewN ?_ _ | with_reducible refine Chg.drew ?_ | with_reducible refine Chg.alloc ?_ _ | with_reducible refine Chg.setCell ?_ _ _ (by first | (simp; done) | omega | (simp; omega)) | with_reducible refine Chg.setBlock ?_ _ _ (by first | (simp; done) | omega | (simp; omega)) | exact Chg.refl _ _))), HO4.out.step (Chg.below (by repeat (first | with_reducible exact Chg.refl _ _ | with_reducible exact chg0 | with_reducible refine Chg.drewN ?_ _ | with_reducible refine Chg.drew ?_ | with_reducible refine Chg.alloc ?_ _ | with_reducible refine Chg.setCell ?_ _ _ (by first | (simp; done) | omega | (simp; omega)) | with_reducible refine Chg.setBlock ?_ _ _ (by first | (simp; done) | omega | (simp; omega)) | exact Chg.refl _ _)))⟩
            · have q6' : (d.letter.kind == 6) = false := by simpa using q6
              have hack2 : n.acks d = 0 := by rw [HACK.out, if_neg (fun h => q6 h.1)]
              have HACK2 := Lib.hid hack2
              clear hack2 q6 HACK rLt
              go_wp2_with fail
              go_meet
              exact ⟨F4, v1, v2, by rw [HACK2.out]; rfl, HN4.out.same (Chg.below (by repeat (first | with_reducible exact Chg.refl _ _ | with_reducible exact chg0 | with_reducible refine Chg.drewN ?_ _ | with_reducible refine Chg.drew ?_ | with_reducible refine Chg.alloc ?_ _ | with_reducible refine Chg.setCell ?_ _ _ (by first | (simp; done) | omega | (simp; omega)) | with_reducible refine Chg.setBlock ?_ _ _ (by first | (simp; done) | omega | (simp; omega)) | exact Chg.refl _ _))), HO4.out.step (Chg.below (by repeat (first | with_reducible exact Chg.refl _ _ | with_reducible exact chg0 | with_reducible refine Chg.drewN ?_ _ | with_reducible refine Chg.drew ?_ | with_reducible refine Chg.alloc ?_ _ | with_reducible refine Chg.setCell ?_ _ _ (by first | (simp; done) | omega | (simp; omega)) | with_reducible refine Chg.setBlock ?_ _ _ (by first | (simp; done) | omega | (simp; omega)) | exact Chg.refl _ _)))⟩
          have q2' : (d.kind == 2) = false := by simpa using q2
          have hack : n.acks d = 0 := by unfold Node.acks; rw [if_neg (fun h => q2 h.1)]
          have HACK := Lib.hid hack
          by_cases q3 : d.kind = 3
          · have q3' : (d.kind == 3) = true := by simpa using q3
            have hHT := fun (V : World) (hV : NodeIn V a n F) => NodeTick_calls d.draws hV
            have hst := HST.out
            unfold Node.step at hst
            rw [if_neg q1, if_neg q2, if_pos q3] at hst
            obtain ⟨⟨m1, m2⟩, hm⟩ : ∃ m, m = n.tick d.draws := ⟨_, rfl⟩
            simp only [← hm] at hst hHT
            obtain ⟨rfl, rfl, rfl⟩ : n' = m1 ∧ L = m2 ∧ D = [] := by simpa using hst
            have HHT := Lib.hid hHT
            clear hst hHT hm hack q1 q2 q3
            generalize d.draws = dr at rDr HHT
            go_wp2_with (first | (refine wpList_load_row rfl 38 _ rfl b1 15 rfl dr.cells rDr (by kernel_rfl) (by kernel_rfl) ?_))
            refine (HHT.out _ HN3.out.node.here).mono ?_
            rintro e w4 ⟨FC4, u1, u2, rfl, hs4⟩
            obtain ⟨B1, i1, s1, e1⟩ := hs4.letters.shape
            obtain ⟨B2, i2, s2, e2⟩ := hs4.done.shape
            subst e1
            subst e2
            have HN4 := Lib.hid (HN3.out.sent hs4)
            have HO4 := Lib.hid (HN3.out.node.outs hs4).1
            obtain ⟨z0, z1, zf, lz⟩ := outO_cells HN4.out.head.1
            clear hs4
            go_wp2_with fail
            go_meet
            refine ⟨FC4, .slice B1 i1 s1, .slice B2 i2 s2, by rw [HACK.out]; rfl, HN4.out.put (by repeat (first | with_reducible exact Chg.refl _ _ | with_reducible exact chg0 | with_reducible refine Chg.drewN ?_ _ | with_reducible refine Chg.drew ?_ | with_reducible refine Chg.alloc ?_ _ | with_reducible refine Chg.setCell ?_ _ _ (by first | (simp; done) | omega | (simp; omega)) | with_reducible refine Chg.setBlock ?_ _ _ (by first | (simp; done) | omega | (simp; omega)) | exact Chg.refl _ _)) ?_ (by omega) ?_, HO4.out.at HN4.out.head.1 (by decide) (by repeat (first | with_reducible exact Chg.refl _ _ | with_reducible exact chg0 | with_reducible refine Chg.drewN ?_ _ | with_reducible refine Chg.drew ?_ | with_reducible refine Chg.alloc ?_ _ | with_reducible refine Chg.setCell ?_ _ _ (by first | (simp; done) | omega | (simp; omega)) | with_reducible refine Chg.setBlock ?_ _ _ (by first | (simp; done) | omega | (simp; omega)) | exact Chg.refl _ _))⟩
            · have ho := HN4.out.head.1
              simp only [outO] at ho
              simp [go_sem, ho, lz, setAt, outO]
              done
            · intro p hp; simp only [List.mem_cons, List.not_mem_nil, or_false] at hp; rcases hp with rfl | rfl | rfl <;> (simp only; omega)
          · have q3' : (d.kind == 3) = false := by simpa using q3
            have hst := HST.out
            unfold Node.step at hst
            rw [if_neg q1, if_neg q2, if_neg q3] at hst
            obtain ⟨rfl, rfl, rfl⟩ : n' = n ∧ L = [] ∧ D = [] := by simpa using hst
            clear hst hack q1 q2 q3
            go_wp2_with fail
            go_meet
            exact ⟨F, _, _, by rw [HACK.out]; rfl, HN3.out.same (Chg.below (by repeat (first | with_reducible exact Chg.refl _ _ | with_reducible exact chg0 | with_reducible refine Chg.drewN ?_ _ | with_reducible refine Chg.drew ?_ | with_reducible refine Chg.alloc ?_ _ | with_reducible refine Chg.setCell ?_ _ _ (by first | (simp; done) | omega | (simp; omega)) | with_reducible refine Chg.setBlock ?_ _ _ (by first | (simp; done) | omega | (simp; omega)) | exact Chg.refl _ _))), ⟨OwnSl.nil, fun j hj => by cases hj⟩⟩
        case rest =>
        obtain ⟨F4, v1, v2, rfl, hN4, hO4⟩ := hcut
        have HN4 := Lib.hid hN4
        have HO4 := Lib.hid hO4
        have hE : Ends n n' L (n.acks d) := by have := step_ends n d; rw [← HST.out] at this; exact this
        have hR' : n'.Runs (k + 1) ∧ n'.c = c ∧ n'.id = id := by
          have h1 := HR.out.1.step (by rw [HR.out.2.1]; exact HF.out) d
          have h2 := step_goes n HR.out.1.ok d
          rw [← HST.out] at h1 h2
          exact ⟨h1, h2.c.trans HR.out.2.1, h2.id.trans HR.out.2.2⟩
        have hacks : (n.acks d : Int) ≤ 1 := by unfold Node.acks; split <;> omega
        have hES := hE.start HT.out
        have HR' := Lib.hid hR'
        obtain ⟨ac, hac⟩ : ∃ ac : Int, ac = (n.acks d : Int) := ⟨_, rfl⟩
        rw [← hac] at hES hacks
        simp only [← hac]
        have HES := Lib.hid hES
        obtain ⟨A1, cap1, e1⟩ := hO4.1.form
        rw [List.length_map] at e1
        subst e1
        have HN5 := Lib.hid (hN4.tail.tail)
        have hLl : L.length ≤ 9223372036854775807 := by obtain ⟨_, _, _, _, h, _⟩ := sliceOf (cells := Letter.cells) hO4.1.slice; exact h
        obtain ⟨z0, z1, zf, lz⟩ := outO_cells hN4.head.1
        clear hN4 hO4 HN3 HN4 hE hR' hES hac HR HST HT hb12
        go_wp2_with fail
        go_loopg [87, 14] L.length (fun g i s14 wx => ∃ (wq : World) (j : Nat) (ac : Int) (T : Int → Int → Bool) (oT : Obj) (f : Int × Int → Option Value), wx = wq ∧ j ≤ L.length ∧ g = L.length - j ∧ i = .int .i64 j ∧ s14 = .int .i64 ac ∧ ac ≤ 1 ∧
          NdA w wq a n' F4 [(tb, oT), (w.heap.size, cfgO c)] ∧ Own0 w wq 44 11 (.slice A1 L.length cap1) (L.map Letter.cells) ∧ PairObj oT f ∧ BoolPair T f ∧ EndsAt n' T ac (L.drop j))
        case atStart => exact ⟨_, 0, _, _, _, _, rfl, Nat.zero_le _, rfl, rfl, rfl, hacks, HN5.out, HO4.out, HO.out, HB.out, HES.out⟩
        case round =>
          obtain ⟨wq, j, ac, T, oT, f, hwx, hj, rfl, rfl, rfl, hac1, hN, hO4, hO, hB, hES⟩ := hrel
          replace hwx := hwx.symm
          subst hwx
          clear HN5 HO4 HO HB HES z0 z1 zf lz hacks
          have HN := Lib.hid hN
          have HO := Lib.hid hO
          have HB := Lib.hid hB
          have HO4 := Lib.hid hO4
          have HES := Lib.hid hES
          clear hN hO hB hES
          by_cases hlj : j < L.length
          · obtain ⟨A5, s5, e7, _, _, hat⟩ := sliceOf (cells := Letter.cells) hO4.1.slice
            cases e7
            obtain ⟨qb, qo, e8, hr⟩ := hat (by omega)
            subst e8
            have hrow := hr j hlj
            obtain ⟨x, hx⟩ : ∃ x, x = L[j] := ⟨_, rfl⟩
            have hdrop : L.drop j = x :: L.drop (j + 1) := by rw [hx]; exact List.drop_eq_getElem_cons hlj
            rw [← hx] at hrow
            have HD := Lib.hid hdrop
            have HROW := Lib.hid hrow
            clear hr hrow hx hdrop hat hO4
            go_upto_region 21 with fail
            go_cut [16] (fun s16 wx => s16 = .pointer (some ⟨wq.heap.size, 0, none⟩) ∧ ob wx wq.heap.size = some (letO x) ∧ Below wq.heap.size wq wx)
            case first =>
              have h18 : x.cells.toArray.size = 11 := rfl
              have hone : x.cells.toArray.all (·.oneCell') = true := all_oneCell_toArray (by intro v hv; simp only [Letter.cells, List.mem_cons, List.not_mem_nil, or_false] at hv; rcases hv with rfl | rfl | rfl | rfl | rfl | rfl | rfl | rfl | rfl | rfl | rfl <;> rfl)
              have HFIN := Lib.hid (fun W : World => show ob (W.alloc (.cells x.cells.toArray 44)) W.heap.size = some (letO x) from ob_alloc_at _ _)
              have HR := HROW
              generalize x.cells = CS at HR h18 hone HFIN
              go_wp2_with (first | (refine wpList_load_row rfl 44 _ rfl qb (qo + j * 11) rfl CS HR.out (by kernel_rfl) (Eq.trans (by kernel_rfl : _ = some 11) (by simpa using h18.symm)) ?_) | (refine wpList_store_new rfl 44 _ _ rfl _ CS.toArray rfl rfl (Eq.trans (by kernel_rfl : _ = some 11) (by simpa using h18.symm)) (by simpa using h18.symm) hone ?_))
              go_meet
              exact ⟨rfl, HFIN.out _, Chg.below (by repeat (first | with_reducible exact Chg.refl _ _ | with_reducible exact chg0 | with_reducible refine Chg.drewN ?_ _ | with_reducible refine Chg.drew ?_ | with_reducible refine Chg.alloc ?_ _ | with_reducible refine Chg.setCell ?_ _ _ (by first | (simp; done) | omega | (simp; omega)) | with_reducible refine Chg.setBlock ?_ _ _ (by first | (simp; done) | omega | (simp; omega)) | exact Chg.refl _ _))⟩
            case rest =>
            obtain ⟨rfl, hA, hbA⟩ := hcut
            have HN6 := Lib.hid (HN.out.same hbA)
            have HO6 := Lib.hid (HO4.out.step hbA)
            obtain ⟨x0, x3, x4⟩ : wc.cell? ⟨wq.heap.size, 0, none⟩ = some (.int .i64 x.kind) ∧ wc.cell? ⟨wq.heap.size, 3, none⟩ = some (.int .i64 x.block) ∧ wc.cell? ⟨wq.heap.size, 4, none⟩ = some (.int .i64 x.seq) := ⟨cell_ob hA 0, cell_ob hA 3, cell_ob hA 4⟩
            have lA := ob_lt hA
            have hES := HES.out
            rw [HD.out] at hES
            have hLd : (L.drop j).length = L.length - j := List.length_drop
            clear hA hbA HROW HN HO4
            by_cases q5 : x.kind = 5
            · obtain ⟨t1, t2⟩ := hES.told q5
              have HES' := Lib.hid t2
              have hlk : ∀ W : World, ob W tb = some oT → (Instr.lookup 71 (.map (some tb)) (.agg #[.int .i64 x.block, .int .i64 x.seq]) false).run Tryz.prog W = .ok (.bool false) W := fun W hW => by
                have h1 := HO.out.lookup tyTold (x.block, x.seq) _ W hW
                rw [HB.out (x.block, x.seq), t1] at h1
                exact h1
              obtain ⟨oT2, hO2, hup⟩ := HO.out.update tyTold (x.block, x.seq) (.bool true) tb
              have hlk2 := hlk wc HN6.out.head.1
              have hup2 := hup wc HN6.out.head.1
              simp only [pairV] at hup2
              have HO2 := Lib.hid hO2
              have q7' : (x.kind == 7) = false := by rw [q5]; rfl
              have q5' : (x.kind == 5) = true := by rw [q5]; rfl
              have q5n : (x.kind != 5) = false := by rw [q5]; rfl
              have ltb := ob_lt HN6.out.head.1
              clear hES t1 t2 hO2 hlk hup HES q5
              go_wp2_with fail
              go_roundg (L.length - (j + 1))
              case rel =>
                exact ⟨_, j + 1, ac, _, oT2, _, rfl, by omega, rfl, by go_num, rfl, hac1, HN6.out.put (by repeat (first | with_reducible exact Chg.refl _ _ | with_reducible exact chg0 | with_reducible refine Chg.drewN ?_ _ | with_reducible refine Chg.drew ?_ | with_reducible refine Chg.alloc ?_ _ | with_reducible refine Chg.setCell ?_ _ _ (by first | (simp; done) | omega | (simp; omega)) | with_reducible refine Chg.setBlock ?_ _ _ (by first | (simp; done) | omega | (simp; omega)) | exact Chg.refl _ _)) (by simp [go_sem, ltb]) (by omega) (by intro p hp; simp only [List.mem_cons, List.not_mem_nil, or_false] at hp; rcases hp with rfl; simp only; omega),
                  HO6.out.atMap HN6.out.head.1 (by obtain ⟨es, cl, e, _⟩ := HO.out; exact ⟨es, cl, e⟩) (by repeat (first | with_reducible exact Chg.refl _ _ | with_reducible exact chg0 | with_reducible refine Chg.drewN ?_ _ | with_reducible refine Chg.drew ?_ | with_reducible refine Chg.alloc ?_ _ | with_reducible refine Chg.setCell ?_ _ _ (by first | (simp; done) | omega | (simp; omega)) | with_reducible refine Chg.setBlock ?_ _ _ (by first | (simp; done) | omega | (simp; omega)) | exact Chg.refl _ _)), HO2.out, HB.out.put x.block x.seq, HES'.out⟩
              case measure => omega
            · have t2 := hES.other q5
              have q5' : (x.kind == 5) = false := by simpa using q5
              have q5n : (x.kind != 5) = true := by simpa using q5
              by_cases q7 : x.kind = 7
              · have q7' : (x.kind == 7) = true := by simpa using q7
                rw [if_pos q7] at t2
                have hac0 : 0 ≤ ac - 1 := by rw [t2.acks]; omega
                have HES' := Lib.hid t2
                have e1 : IntKind.i64.wrap (ac - 1) = ac - 1 := by rw [IntKind.wrap_i64]; omega
                clear hES t2 HES q5 q7
                go_wp2_with fail
                go_roundg (L.length - (j + 1))
                case rel => exact ⟨_, j + 1, ac - 1, T, oT, f, rfl, by omega, rfl, by go_num, rfl, by omega, HN6.out.same (Chg.below (by repeat (first | with_reducible exact Chg.refl _ _ | with_reducible exact chg0 | with_reducible refine Chg.drewN ?_ _ | with_reducible refine Chg.drew ?_ | with_reducible refine Chg.alloc ?_ _ | with_reducible refine Chg.setCell ?_ _ _ (by first | (simp; done) | omega | (simp; omega)) | with_reducible refine Chg.setBlock ?_ _ _ (by first | (simp; done) | omega | (simp; omega)) | exact Chg.refl _ _))), HO6.out.step (Chg.below (by repeat (first | with_reducible exact Chg.refl _ _ | with_reducible exact chg0 | with_reducible refine Chg.drewN ?_ _ | with_reducible refine Chg.drew ?_ | with_reducible refine Chg.alloc ?_ _ | with_reducible refine Chg.setCell ?_ _ _ (by first | (simp; done) | omega | (simp; omega)) | with_reducible refine Chg.setBlock ?_ _ _ (by first | (simp; done) | omega | (simp; omega)) | exact Chg.refl _ _))), HO.out, HB.out, HES'.out⟩
                case measure => omega
              · have q7' : (x.kind == 7) = false := by simpa using q7
                rw [if_neg q7] at t2
                have HES' := Lib.hid t2
                clear hES t2 HES q5 q7
                go_wp2_with fail
                go_roundg (L.length - (j + 1))
                case rel => exact ⟨_, j + 1, ac, T, oT, f, rfl, by omega, rfl, by go_num, rfl, by omega, HN6.out.same (Chg.below (by repeat (first | with_reducible exact Chg.refl _ _ | with_reducible exact chg0 | with_reducible refine Chg.drewN ?_ _ | with_reducible refine Chg.drew ?_ | with_reducible refine Chg.alloc ?_ _ | with_reducible refine Chg.setCell ?_ _ _ (by first | (simp; done) | omega | (simp; omega)) | with_reducible refine Chg.setBlock ?_ _ _ (by first | (simp; done) | omega | (simp; omega)) | exact Chg.refl _ _))), HO6.out.step (Chg.below (by repeat (first | with_reducible exact Chg.refl _ _ | with_reducible exact chg0 | with_reducible refine Chg.drewN ?_ _ | with_reducible refine Chg.drew ?_ | with_reducible refine Chg.alloc ?_ _ | with_reducible refine Chg.setCell ?_ _ _ (by first | (simp; done) | omega | (simp; omega)) | with_reducible refine Chg.setBlock ?_ _ _ (by first | (simp; done) | omega | (simp; omega)) | exact Chg.refl _ _))), HO.out, HB.out, HES'.out⟩
                case measure => omega
          · have hLj : L.drop j = [] := List.drop_eq_nil_iff.2 (by omega)
            have hES := HES.out
            rw [hLj] at hES
            have h0 := hES.over
            have hold := hES.old
            subst h0
            have HOLD := Lib.hid hold
            clear hES hold hO4
            go_wp2_with fail
            go_roundg (l.length - (k + 1))
            case rel => exact ⟨_, k + 1, n', F4, T, oT, f, rfl, by omega, rfl, by go_num, HN.out.same (Chg.below (by repeat (first | with_reducible exact Chg.refl _ _ | with_reducible exact chg0 | with_reducible refine Chg.drewN ?_ _ | with_reducible refine Chg.drew ?_ | with_reducible refine Chg.alloc ?_ _ | with_reducible refine Chg.setCell ?_ _ _ (by first | (simp; done) | omega | (simp; omega)) | with_reducible refine Chg.setBlock ?_ _ _ (by first | (simp; done) | omega | (simp; omega)) | exact Chg.refl _ _))), HR'.out, HO.out, HB.out, HOLD.out⟩
            case measure => omega
      · go_wp2_with fail
        go_ret
        exact ⟨rfl, below_trans HN.out.node.below (Chg.below (by repeat (first | with_reducible exact Chg.refl _ _ | with_reducible exact chg0 | with_reducible refine Chg.drewN ?_ _ | with_reducible refine Chg.drew ?_ | with_reducible refine Chg.alloc ?_ _ | with_reducible refine Chg.setCell ?_ _ _ (by first | (simp; done) | omega | (simp; omega)) | with_reducible refine Chg.setBlock ?_ _ _ (by first | (simp; done) | omega | (simp; omega)) | exact Chg.refl _ _)))⟩
  · have HMN := Lib.hid (fun V => made15_no c id A l.length cap V hf)
    simp only [Config.val, Config.cells] at HMN ⊢
    clear hf
    go_enter Tryz.func8, Tryz.ntmps8
    go_wp2_with fail
    refine (HMN.out _).mono ?_
    rintro e w1 ⟨rfl, hb1⟩
    have HB1 := Lib.hid (show Below w.heap.size w w1 from below_trans (Chg.below (by repeat (first | with_reducible exact Chg.refl _ _ | with_reducible exact chg0 | with_reducible refine Chg.drewN ?_ _ | with_reducible refine Chg.drew ?_ | with_reducible refine Chg.alloc ?_ _ | with_reducible refine Chg.setCell ?_ _ _ (by first | (simp; done) | omega | (simp; omega)) | with_reducible refine Chg.setBlock ?_ _ _ (by first | (simp; done) | omega | (simp; omega)) | exact Chg.refl _ _))) hb1)
    clear hb1
    go_wp2_with fail
    refine (ndAwake_calls _).mono ?_
    rintro e w2 ⟨rfl, hb2⟩
    go_wp2_with fail
    refine (ndAwake_calls _).mono ?_
    rintro e w3 ⟨rfl, hb3⟩
    go_wp2_with fail
    go_ret
    exact ⟨rfl, below_trans HB1.out (below_trans (below_trans (Chg.below (by repeat (first | with_reducible exact Chg.refl _ _ | with_reducible exact chg0 | with_reducible refine Chg.drewN ?_ _ | with_reducible refine Chg.drew ?_ | with_reducible refine Chg.alloc ?_ _ | with_reducible refine Chg.setCell ?_ _ _ (by first | (simp; done) | omega | (simp; omega)) | with_reducible refine Chg.setBlock ?_ _ _ (by first | (simp; done) | omega | (simp; omega)) | exact Chg.refl _ _))) hb2) (below_trans (Chg.below (by repeat (first | with_reducible exact Chg.refl _ _ | with_reducible exact chg0 | with_reducible refine Chg.drewN ?_ _ | with_reducible refine Chg.drew ?_ | with_reducible refine Chg.alloc ?_ _ | with_reducible refine Chg.setCell ?_ _ _ (by first | (simp; done) | omega | (simp; omega)) | with_reducible refine Chg.setBlock ?_ _ _ (by first | (simp; done) | omega | (simp; omega)) | exact Chg.refl _ _))) hb3))⟩
set_option maxRecDepth 100000 in
theorem nodeEnds_lifted (os : Os) (started : os.Started) (H : Type) (enc : TypeId × Value → H) :
    ReturnsInHanded {} Tryz.checked os 8 .any (Rows.nodeEndsSpec.pre6 enc Tryz.prog Tryz.f8 Rows.nodeEndsRow.domain false) (Rows.nodeEndsSpec.post enc Tryz.prog Tryz.f8 false true false false) := by
  refine returnsInHanded_of_change (C := Tryz.checked) law_own started (by kernel_rfl) Tryz.func8
    (ChangeSpec.witness6 (enc := enc) (C := Tryz.checked) false ⟨#[], #[.agg #[.int .i64 0, .int .i64 0, .int .i64 0, .int .i64 0, .int .i64 0, .int .i64 0, .int .i64 0, .int .i64 0, .int .i64 0], .int .i64 0, .slice none 0 0], []⟩ 8 (by kernel_rfl) (by kernel_rfl) (by kernel_rfl) (by kernel_rfl)) ?_
  intro W base args ds gs before hval0 hW hcnd _
  have hval : ∀ (j : Nat) t v, Tryz.f8.params[j]? = some t → args[j]? = some v → Value.okWide Tryz.prog W .any base t v := hval0
  have hW' := hW
  obtain ⟨p, q, hA0, hV, rfl, hfz, hnd⟩ := hW
  have hA : DataW.TrodAll enc Tryz.prog W 0 (fun _ => true) true Tryz.f8.params.toList args.toList ds p := hA0
  rw [Tryz.params8] at hA hval
  obtain ⟨v0, vs0, d0, ds0, p0, q0, hargs, rfl, rfl, h0, r0⟩ := trodAll_cons hA
  obtain ⟨v1, vs1, d1, ds1, p1, q1, rfl, rfl, rfl, h1, r1⟩ := trodAll_cons r0
  obtain ⟨v2, vs2, d2, ds2, p2, q2, rfl, rfl, rfl, h2, r2⟩ := trodAll_cons r1
  obtain ⟨rfl, rfl, rfl⟩ := trodAll_nil r2
  obtain rfl : args = #[v0, v1, v2] := by cases args; simp_all
  obtain ⟨rfl, rfl⟩ := trodVars_none hV
  have k0 := h0
  have lt0 : ∀ x ∈ p0, x.block < W.heap.size := by obtain ⟨m, hm⟩ := k0; exact DataW.trod_lt m _ _ _ hm
  obtain ⟨f0, g0⟩ := h0
  obtain ⟨cs0, rfl, _⟩ := okWide_struct Tryz.underlying23 (hval 0 23 v0 rfl rfl)
  obtain ⟨x0, e0, o0⟩ := Config.of_trod g0
  obtain rfl : cs0 = x0.cells.toArray := by simp only [Value.cells] at e0; rw [← e0]
  have k1 := h1
  have lt1 : ∀ x ∈ p1, x.block < W.heap.size := by obtain ⟨m, hm⟩ := k1; exact DataW.trod_lt m _ _ _ hm
  obtain ⟨f1, g1⟩ := h1
  obtain ⟨x1, e1, o1⟩ := int_of_trod g1
  obtain rfl := one_value (hval 1 3 v1 rfl rfl) Tryz.underlying3 e1
  have k2 := h2
  have lt2 : ∀ x ∈ p2, x.block < W.heap.size := by obtain ⟨m, hm⟩ := k2; exact DataW.trod_lt m _ _ _ hm
  obtain ⟨f2, g2⟩ := h2
  obtain ⟨l2, s2, o2⟩ := slice_of_trod (sz := 18) (cells := Act15.cells) (ok := Act15.ok) Tryz.underlying26 (by kernel_rfl) (by decide) (fun _ => rfl) Act15.of_trod g2 (okWide_slice Tryz.underlying26 (hval 2 26 v2 rfl rfl))
  clear hA0 hval0
  refine (nodeEnds_walk x0 o0 x1 o1 l2 v2 W s2 o2).mono fun e W' ⟨he, bel⟩ => ?_
  subst he
  exact ⟨_, rfl, _, _, _, [], _, [], hW', trodAll_mk1 (shut_bool Tryz.underlying4 _), (trodAll_cons_mk (Below.trod law_laidOut (by kernel_rfl) (of_decide_eq_true (by kernel_rfl)) k0 bel lt0) (trodAll_cons_mk (Below.trod law_laidOut (by kernel_rfl) (of_decide_eq_true (by kernel_rfl)) k1 bel lt1) (trodAll_cons_mk (Below.trod law_laidOut (by kernel_rfl) (of_decide_eq_true (by kernel_rfl)) k2 bel lt2) trodAll_mk0))), rfl, bel.frame _, fun h => by cases h⟩

theorem nodeEnds_holds : Rows.NodeEndsSaid :=
  OpenClaim.holds_of_wide 8 Tryz.f8 rfl rfl rfl rfl rfl rfl rfl ⟨rfl, rfl, rfl, rfl, rfl⟩ rfl rfl rfl rfl rfl (by kernel_rfl) Tryz.func8 (by kernel_rfl)
    (of_decide_eq_true (by kernel_rfl)) (by unfold Func.isWrapper; first | (rw [if_pos (by decide +kernel)]; kernel_rfl) | (rw [if_neg (by decide +kernel)]; exact ⟨rfl, rfl⟩))
    (fun os started H enc _ => nodeEnds_lifted os started H enc)
end Go.Proofs.YtchlioikkhnidaaGreat
