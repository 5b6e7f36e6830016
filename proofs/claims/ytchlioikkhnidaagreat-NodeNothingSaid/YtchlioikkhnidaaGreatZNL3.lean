/-
  NodeNothing: a letter that may not be on its way, or is to somebody else, and an operation on a block that there isn't, or while one is waited for, bring nothing about. No condition.
-/
import Derived.Test.YtchlioikkhnidaaGreatMN15
import Derived.Test.YtchlioikkhnidaaGreatMN18
set_option linter.unusedVariables false
set_option linter.unusedSimpArgs false
namespace Go.Proofs.YtchlioikkhnidaaGreat
open Go.RowKit Go.Sort Go.ChangeShapes Go.WideShapes Go.ChangeAt
open Go.ChangeMaps (setBlock)
set_option linter.unusedVariables false
set_option linter.unusedSimpArgs false
theorem RefNew15.chg {S : Nat → Prop} {w0 w w' : World} {p : Nat} {c : Config} {id : Int} (h : RefNew15 w0 w p c id) (hp : w0.heap.size ≤ p) (hc : Chg S w w') (hS : ∀ j, S j → j < w0.heap.size) : RefNew15 w0 w' p c id := by
  obtain ⟨p1, lp1, F1, p2, p3, h1, h2, h3, h4, h5, h6, h7⟩ := h
  refine ⟨p1, lp1, F1, p2, p3, hc.ob h1 (fun hs => by have := hS _ hs; omega), h2.chg hc (fun j hj hs => by have := hS _ hs; have := (h6 j hj).1; omega), hc.ob h3 (fun hs => by have := hS _ hs; omega), hc.ob h4 (fun hs => by have := hS _ hs; omega), h5, h6, h7⟩
theorem RefNew15.same {w0 w w' : World} {p : Nat} {c : Config} {id : Int} (h : RefNew15 w0 w p c id) (hp : w0.heap.size ≤ p) (hb : Below w.heap.size w w') : RefNew15 w0 w' p c id := h.chg (S := fun _ => False) hp (Chg.of_below hb) fun _ h => h.elim
theorem take_bad (n : Node) (l : Letter) (d : Draws) (h : ¬ (l.err n.c = 0 ∧ l.dst = n.id)) : n.take l d = (n, [], []) := by
  unfold Node.take
  rw [if_pos]
  by_cases h1 : l.err n.c = 0
  · exact .inr fun e => h ⟨h1, e⟩
  · exact .inl (by simp [Letter.legal, h1])
theorem nothing_plain (c : Config) (id : Int) (op : Op) (d : Draws) : ∃ n1 L1 n2, (Node.new c id).issue op d = (n1, L1, [], decide (0 ≤ op.block) && decide (op.block < c.blocks)) ∧ n1.issue op d = (n2, [], [], false) ∧ n2.cpu.busy = (decide (0 ≤ op.block) && decide (op.block < c.blocks)) ∧ n1.cpu.number < 1000000000 := by
  by_cases hb : 0 ≤ op.block ∧ op.block < c.blocks
  · have e : (decide (0 ≤ op.block) && decide (op.block < c.blocks)) = true := by simp [hb]
    rw [e]
    refine ⟨_, _, { Node.new c id with cpu := ((Proc.new c.wait c.tries).issue op).1 }, issue_new c id op d hb, ?_, by simp [Proc.issue, Proc.new], by simp [Proc.issue, Proc.new]⟩
    unfold Node.issue
    rw [if_pos (.inr (.inr (by simp [Proc.issue, Proc.new])))]
  · have e : (decide (0 ≤ op.block) && decide (op.block < c.blocks)) = false := by
      rw [Bool.and_eq_false_iff, decide_eq_false_iff_not, decide_eq_false_iff_not]; omega
    rw [e]
    have hi : (Node.new c id).issue op d = (Node.new c id, [], [], false) := by
      unfold Node.issue
      rw [if_pos]
      by_cases h1 : op.block < 0
      · exact .inl h1
      · exact .inr (.inl (show c.blocks ≤ op.block by omega))
    exact ⟨_, _, _, hi, hi, by simp [Node.new, Proc.new], by simp [Node.new, Proc.new]⟩
theorem placeBusy (v1 v2 : Value) (b1 b2 : Bool) (i1 i2 : Int) (w : World) : (Instr.field 50 (.agg #[v1, .bool b1, .int .i64 i1, .bool b2, .int .i64 i2, v2]) 1).run Tryz.prog w = .ok (.bool b1) w := by kernel_rfl
theorem newPlace_calls {w : World} {a : NAddr} {c : Config} {id : Int} {F : Nat → Prop} (h : NodeIn w a (Node.new c id) F) :
    Calls Tryz.prog 15 #[.pointer (some ⟨a.p, 0, none⟩)] w fun e w' =>
      ∃ v1 v2, e = .returned (.agg #[v1, .bool false, .int .i64 0, .bool false, .int .i64 0, v2]) ∧ Own0 w w' 53 5 v1 (([] : List Line).map Line.cells) ∧ Own0 w w' 124 3 v2 (([] : List Active).map Active.cells) ∧ Below w.heap.size w w' := by
  refine (NodePlace_calls h).mono ?_
  rintro e w' ⟨v1, v2, rfl, h1, h2, h3⟩
  have e1 : (Node.new c id).cache.all = [] := new_all _ _
  have e2 : (Node.new c id).table.list = [] := by simp [Node.new, Table.list, Table.new, Table.on, Active.zero]
  rw [e1] at h1
  rw [e2] at h2
  exact ⟨v1, v2, rfl, h1, h2, h3⟩
set_option maxHeartbeats 8000000 in
set_option maxRecDepth 20000 in
theorem nodeNothing_walk (c : Config) (hc : c.ok) (id : Int) (hi : i64ok id) (x : Act15) (hx : x.ok) (w : World) :
    Calls Tryz.prog 4 #[c.val, .int .i64 id, x.val] w fun e w' => e = .returned (.bool true) ∧ Below w.heap.size w w' := by
  clear hc hi hx
  by_cases hf : c.Fine ∧ (0 ≤ id ∧ id < c.nodes)
  · have HF := Lib.hid hf.1
    have HID := Lib.hid hf.2
    have HMY := Lib.hid (fun V => made15_yes c id none 0 0 V hf.1 hf.2 (by decide))
    simp only [Config.val, Config.cells, Act15.val, Int.natCast_zero] at HMY ⊢
    clear hf
    have hA0 := ob_alloc_at (w.alloc (.cells #[.int .i64 c.nodes, .int .i64 c.blocks, .int .i64 c.tokens, .int .i64 c.sets, .int .i64 c.ways, .int .i64 c.cap, .int .i64 c.wait, .int .i64 c.tries, .int .i64 c.policy] 23)) (.cells x.cells.toArray 46)
    have HA0 := Lib.hid hA0
    clear hA0
    generalize hcs : x.cells = CS at HA0
    go_enter Tryz.func4, Tryz.ntmps4
    go_wp2_with fail
    refine (HMY.out _).mono ?_
    rintro e w1 ⟨a, FC, m, wm, rfl, hN, hRf, hlo, hwm, _⟩
    subst hcs
    have oC : cfgOb w1 w.heap.size c := ob_step hN.below (by simp [go_sem])
    have oX : ob w1 (w.heap.size + 1) = some (actO x) := ob_step hN.below (by simpa [actO] using HA0.out)
    have HLOW := Lib.hid (show ∀ j, nFp a FC j → w.heap.size + 2 ≤ j from fun j hj => by have := hN.low j hj; simp at this; omega)
    have HN1 := Lib.hid (show NdA w w1 a (Node.new c id) FC [(w.heap.size, cfgO c), (w.heap.size + 1, actO x)] from ((NdA.nil (hN.base (Chg.below (by repeat (first | with_reducible exact Chg.refl _ _ | with_reducible exact chg0 | with_reducible refine Chg.drewN ?_ _ | with_reducible refine Chg.drew ?_ | with_reducible refine Chg.alloc ?_ _ | with_reducible refine Chg.setCell ?_ _ _ (by first | (simp; done) | omega | (simp; omega)) | with_reducible refine Chg.setBlock ?_ _ _ (by first | (simp; done) | omega | (simp; omega)) | exact Chg.refl _ _))))).cons oX (fun hf => by have := HLOW.out _ hf; omega)).cons oC (fun hf => by have := HLOW.out _ hf; omega))
    have HRf := Lib.hid hRf
    have HLO := Lib.hid hlo
    clear hN oC oX HMY hRf hlo
    go_wp2_with fail
    refine (ndAwake_calls _).mono ?_
    rintro e w2 ⟨rfl, hb2⟩
    have HN2 := Lib.hid (HN1.out.same (below_trans (Chg.below (by repeat (first | with_reducible exact Chg.refl _ _ | with_reducible exact chg0 | with_reducible refine Chg.drewN ?_ _ | with_reducible refine Chg.drew ?_ | with_reducible refine Chg.alloc ?_ _ | with_reducible refine Chg.setCell ?_ _ _ (by first | (simp; done) | omega | (simp; omega)) | with_reducible refine Chg.setBlock ?_ _ _ (by first | (simp; done) | omega | (simp; omega)) | exact Chg.refl _ _))) hb2))
    have HRf2 := Lib.hid (HRf.out.same hwm (below_trans (Chg.below (by repeat (first | with_reducible exact Chg.refl _ _ | with_reducible exact chg0 | with_reducible refine Chg.drewN ?_ _ | with_reducible refine Chg.drew ?_ | with_reducible refine Chg.alloc ?_ _ | with_reducible refine Chg.setCell ?_ _ _ (by first | (simp; done) | omega | (simp; omega)) | with_reducible refine Chg.setBlock ?_ _ _ (by first | (simp; done) | omega | (simp; omega)) | exact Chg.refl _ _))) hb2))
    clear hb2 HN1 HLOW HRf HA0
    obtain ⟨bx, hbx⟩ : ∃ bx, bx = w.heap.size + 1 := ⟨_, rfl⟩
    rw [← hbx] at HN2
    simp only [← hbx]
    clear hbx
    have HCK := Lib.hid (fun (V : World) => RefLCheck_calls c x.letter V)
    simp only [Config.val, Config.cells, Letter.val] at HCK
    obtain ⟨bd, hbd⟩ : ∃ bd : Bool, bd = !(decide (x.letter.err c = 0) && decide (x.letter.dst = id)) := ⟨_, rfl⟩
    have HBD := Lib.hid hbd
    clear hbd
    go_upto_region 4 with fail
    go_cut [40] (fun s40 wx => s40 = .bool bd ∧ NdA w wx a (Node.new c id) FC [(w.heap.size, cfgO c), (bx, actO x)] ∧ RefNew15 wm wx m c id)
    case first =>
      obtain ⟨_, rLt, _, _⟩ := actO_range (HN2.out.aside (bx, actO x) (by simp)).1
      have oC : cfgOb w2 w.heap.size c := HN2.out.head.1
      obtain ⟨c0, c1, c2, c3, c4, c5, c6, c7, c8, cf, cl⟩ := ob_cells9 oC
      clear oC
      generalize x.letter.cells = LC at rLt HCK
      generalize x.letter.err c = er at HCK HBD
      go_wp2_with (first | (refine wpList_load_row rfl 44 _ rfl bx 4 rfl LC rLt (by kernel_rfl) (by kernel_rfl) ?_))
      refine (HCK.out _).mono ?_
      rintro e w5 ⟨rfl, hb5⟩
      have hb25 := below_trans (Chg.below (w := w2) (by repeat (first | with_reducible exact Chg.refl _ _ | with_reducible exact chg0 | with_reducible refine Chg.drewN ?_ _ | with_reducible refine Chg.drew ?_ | with_reducible refine Chg.alloc ?_ _ | with_reducible refine Chg.setCell ?_ _ _ (by first | (simp; done) | omega | (simp; omega)) | with_reducible refine Chg.setBlock ?_ _ _ (by first | (simp; done) | omega | (simp; omega)) | exact Chg.refl _ _))) hb5
      have HN5 := Lib.hid (HN2.out.same hb25)
      have HR5 := Lib.hid (HRf2.out.same hwm hb25)
      have oA := (HN5.out.aside (bx, actO x) (by simp)).1
      have y6 : w5.cell? ⟨bx, 6, none⟩ = some (.int .i64 x.letter.dst) := cell_ob oA 6
      have lB := ob_lt oA
      clear hb5 hb25 oA c0 c1 c2 c3 c4 c5 c6 c7 c8 cf cl rLt
      by_cases qe : er = 0
      · have qe' : (er == 0) = true := by simpa using qe
        have qn' : (er != 0) = false := by simpa using qe
        by_cases qd : x.letter.dst = id
        · have qd' : (x.letter.dst == id) = true := by simpa using qd
          have qdn' : (x.letter.dst != id) = false := by simpa using qd
          have HL2 := Lib.hid (show bd = false from by rw [HBD.out]; simp [qe, qd])
          clear qe qd
          go_wp2_with fail
          go_meet
          exact ⟨by rw [HL2.out], HN5.out.same (Chg.below (by repeat (first | with_reducible exact Chg.refl _ _ | with_reducible exact chg0 | with_reducible refine Chg.drewN ?_ _ | with_reducible refine Chg.drew ?_ | with_reducible refine Chg.alloc ?_ _ | with_reducible refine Chg.setCell ?_ _ _ (by first | (simp; done) | omega | (simp; omega)) | with_reducible refine Chg.setBlock ?_ _ _ (by first | (simp; done) | omega | (simp; omega)) | exact Chg.refl _ _))), HR5.out.same hwm (Chg.below (by repeat (first | with_reducible exact Chg.refl _ _ | with_reducible exact chg0 | with_reducible refine Chg.drewN ?_ _ | with_reducible refine Chg.drew ?_ | with_reducible refine Chg.alloc ?_ _ | with_reducible refine Chg.setCell ?_ _ _ (by first | (simp; done) | omega | (simp; omega)) | with_reducible refine Chg.setBlock ?_ _ _ (by first | (simp; done) | omega | (simp; omega)) | exact Chg.refl _ _)))⟩
        · have qd' : (x.letter.dst == id) = false := by simpa using qd
          have qdn' : (x.letter.dst != id) = true := by simpa using qd
          have HL2 := Lib.hid (show bd = true from by rw [HBD.out]; simp [qd])
          clear qe qd
          go_wp2_with fail
          go_meet
          exact ⟨by rw [HL2.out], HN5.out.same (Chg.below (by repeat (first | with_reducible exact Chg.refl _ _ | with_reducible exact chg0 | with_reducible refine Chg.drewN ?_ _ | with_reducible refine Chg.drew ?_ | with_reducible refine Chg.alloc ?_ _ | with_reducible refine Chg.setCell ?_ _ _ (by first | (simp; done) | omega | (simp; omega)) | with_reducible refine Chg.setBlock ?_ _ _ (by first | (simp; done) | omega | (simp; omega)) | exact Chg.refl _ _))), HR5.out.same hwm (Chg.below (by repeat (first | with_reducible exact Chg.refl _ _ | with_reducible exact chg0 | with_reducible refine Chg.drewN ?_ _ | with_reducible refine Chg.drew ?_ | with_reducible refine Chg.alloc ?_ _ | with_reducible refine Chg.setCell ?_ _ _ (by first | (simp; done) | omega | (simp; omega)) | with_reducible refine Chg.setBlock ?_ _ _ (by first | (simp; done) | omega | (simp; omega)) | exact Chg.refl _ _)))⟩
      · have qe' : (er == 0) = false := by simpa using qe
        have qn' : (er != 0) = true := by simpa using qe
        have HL2 := Lib.hid (show bd = true from by rw [HBD.out]; simp [qe])
        clear qe
        go_wp2_with fail
        go_meet
        exact ⟨by rw [HL2.out], HN5.out.same (Chg.below (by repeat (first | with_reducible exact Chg.refl _ _ | with_reducible exact chg0 | with_reducible refine Chg.drewN ?_ _ | with_reducible refine Chg.drew ?_ | with_reducible refine Chg.alloc ?_ _ | with_reducible refine Chg.setCell ?_ _ _ (by first | (simp; done) | omega | (simp; omega)) | with_reducible refine Chg.setBlock ?_ _ _ (by first | (simp; done) | omega | (simp; omega)) | exact Chg.refl _ _))), HR5.out.same hwm (Chg.below (by repeat (first | with_reducible exact Chg.refl _ _ | with_reducible exact chg0 | with_reducible refine Chg.drewN ?_ _ | with_reducible refine Chg.drew ?_ | with_reducible refine Chg.alloc ?_ _ | with_reducible refine Chg.setCell ?_ _ _ (by first | (simp; done) | omega | (simp; omega)) | with_reducible refine Chg.setBlock ?_ _ _ (by first | (simp; done) | omega | (simp; omega)) | exact Chg.refl _ _)))⟩
    case rest =>
    obtain ⟨rfl, hN5, hR5⟩ := hcut
    have HN5 := Lib.hid hN5
    have HR5 := Lib.hid hR5
    clear hN5 hR5 HN2 HRf2 HCK
    go_upto_if 40 with fail
    go_cut [] (fun wx => ∃ F, NdA w wx a (Node.new c id) F [(w.heap.size, cfgO c), (bx, actO x)])
    case first =>
      cases bd with
      | true =>
        have hbad : ¬ (x.letter.err (Node.new c id).c = 0 ∧ x.letter.dst = (Node.new c id).id) := fun h => by
          have := HBD.out
          have h1 : x.letter.err c = 0 := h.1
          have h2 : x.letter.dst = id := h.2
          simp [h1, h2] at this
        have hTK := fun (V : World) (hV : NodeIn V a (Node.new c id) FC) => NodeTake_calls x.letter x.draws hV (fun b => by rw [show (Node.new c id).cache = CacheM.new c.sets c.ways from rfl, CacheM.new_tok]; decide)
        rw [take_bad _ _ _ hbad] at hTK
        have HTK := Lib.hid hTK
        obtain ⟨_, rLt, rDr, _⟩ := actO_range (HN5.out.aside (bx, actO x) (by simp)).1
        clear hbad hTK HBD
        generalize x.letter = lt at rLt HTK
        generalize x.draws = dr at rDr HTK
        go_wp2_with (first | (refine wpList_load_row rfl 44 _ rfl bx 4 rfl lt.cells rLt (by kernel_rfl) (by kernel_rfl) ?_) | (refine wpList_load_row rfl 38 _ rfl bx 15 rfl dr.cells rDr (by kernel_rfl) (by kernel_rfl) ?_))
        refine (HTK.out _ HN5.out.node.here).mono ?_
        rintro e w6 ⟨FC6, u1, u2, rfl, hs6⟩
        obtain ⟨B1, s1, e1⟩ := hs6.letters.form
        obtain ⟨B2, s2, e2⟩ := hs6.done.form
        simp only [List.map_nil, List.length_nil] at e1 e2
        subst e1
        subst e2
        have HN6 := Lib.hid (HN5.out.sent hs6)
        have HR6 := Lib.hid (HR5.out.chg hwm hs6.moves.chg (fun j hj => HLO.out j hj))
        clear hs6 rLt rDr HLO HTK HR5 HN5
        have HP := Lib.hid (fun (V : World) (hV : NodeIn V a (Node.new c id) FC6) => newPlace_calls hV)
        go_wp2_with fail
        refine (HP.out _ (HN6.out.same (Chg.below (by repeat (first | with_reducible exact Chg.refl _ _ | with_reducible exact chg0 | with_reducible refine Chg.drewN ?_ _ | with_reducible refine Chg.drew ?_ | with_reducible refine Chg.alloc ?_ _ | with_reducible refine Chg.setCell ?_ _ _ (by first | (simp; done) | omega | (simp; omega)) | with_reducible refine Chg.setBlock ?_ _ _ (by first | (simp; done) | omega | (simp; omega)) | exact Chg.refl _ _)))).node.here).mono ?_
        rintro e w7 ⟨u1, u2, rfl, hl7, ha7, hb7⟩
        have hb67 := below_trans (Chg.below (w := w6) (by repeat (first | with_reducible exact Chg.refl _ _ | with_reducible exact chg0 | with_reducible refine Chg.drewN ?_ _ | with_reducible refine Chg.drew ?_ | with_reducible refine Chg.alloc ?_ _ | with_reducible refine Chg.setCell ?_ _ _ (by first | (simp; done) | omega | (simp; omega)) | with_reducible refine Chg.setBlock ?_ _ _ (by first | (simp; done) | omega | (simp; omega)) | exact Chg.refl _ _))) hb7
        have HN7 := Lib.hid (HN6.out.same hb67)
        have HR7 := Lib.hid (HR6.out.same hwm hb67)
        have HL7 := Lib.hid (And.intro hl7.1.slice ha7.1.slice)
        clear hl7 ha7 hb7 hb67 HN6 HR6
        go_wp2_with fail
        refine (RefPlaceNew_calls (HR7.out.same hwm (Chg.below (by repeat (first | with_reducible exact Chg.refl _ _ | with_reducible exact chg0 | with_reducible refine Chg.drewN ?_ _ | with_reducible refine Chg.drew ?_ | with_reducible refine Chg.alloc ?_ _ | with_reducible refine Chg.setCell ?_ _ _ (by first | (simp; done) | omega | (simp; omega)) | with_reducible refine Chg.setBlock ?_ _ _ (by first | (simp; done) | omega | (simp; omega)) | exact Chg.refl _ _))))).mono ?_
        rintro e w8 ⟨u3, u4, rfl, hl8, ha8, hb8⟩
        have hb78 := below_trans (Chg.below (w := w7) (by repeat (first | with_reducible exact Chg.refl _ _ | with_reducible exact chg0 | with_reducible refine Chg.drewN ?_ _ | with_reducible refine Chg.drew ?_ | with_reducible refine Chg.alloc ?_ _ | with_reducible refine Chg.setCell ?_ _ _ (by first | (simp; done) | omega | (simp; omega)) | with_reducible refine Chg.setBlock ?_ _ _ (by first | (simp; done) | omega | (simp; omega)) | exact Chg.refl _ _))) hb8
        have HN8 := Lib.hid (HN7.out.same hb78)
        have HL8 := Lib.hid (And.intro hl8.1.slice ha8.1.slice)
        have HL9 := Lib.hid (And.intro (HL7.out.1.below hb78) (HL7.out.2.below hb78))
        clear hl8 ha8 hb8 hb78 HL7 HN7 HR7
        go_wp2_with fail
        refine (place_same [] [] false Op.zero _ _ _ _ _ (HL9.out.1.below (Chg.below (by repeat (first | with_reducible exact Chg.refl _ _ | with_reducible exact chg0 | with_reducible refine Chg.drewN ?_ _ | with_reducible refine Chg.drew ?_ | with_reducible refine Chg.alloc ?_ _ | with_reducible refine Chg.setCell ?_ _ _ (by first | (simp; done) | omega | (simp; omega)) | with_reducible refine Chg.setBlock ?_ _ _ (by first | (simp; done) | omega | (simp; omega)) | exact Chg.refl _ _)))) (HL8.out.1.below (Chg.below (by repeat (first | with_reducible exact Chg.refl _ _ | with_reducible exact chg0 | with_reducible refine Chg.drewN ?_ _ | with_reducible refine Chg.drew ?_ | with_reducible refine Chg.alloc ?_ _ | with_reducible refine Chg.setCell ?_ _ _ (by first | (simp; done) | omega | (simp; omega)) | with_reducible refine Chg.setBlock ?_ _ _ (by first | (simp; done) | omega | (simp; omega)) | exact Chg.refl _ _)))) (HL9.out.2.below (Chg.below (by repeat (first | with_reducible exact Chg.refl _ _ | with_reducible exact chg0 | with_reducible refine Chg.drewN ?_ _ | with_reducible refine Chg.drew ?_ | with_reducible refine Chg.alloc ?_ _ | with_reducible refine Chg.setCell ?_ _ _ (by first | (simp; done) | omega | (simp; omega)) | with_reducible refine Chg.setBlock ?_ _ _ (by first | (simp; done) | omega | (simp; omega)) | exact Chg.refl _ _)))) (HL8.out.2.below (Chg.below (by repeat (first | with_reducible exact Chg.refl _ _ | with_reducible exact chg0 | with_reducible refine Chg.drewN ?_ _ | with_reducible refine Chg.drew ?_ | with_reducible refine Chg.alloc ?_ _ | with_reducible refine Chg.setCell ?_ _ _ (by first | (simp; done) | omega | (simp; omega)) | with_reducible refine Chg.setBlock ?_ _ _ (by first | (simp; done) | omega | (simp; omega)) | exact Chg.refl _ _))))).mono ?_
        rintro e w9 ⟨rfl, hb9⟩
        have HN9 := Lib.hid (HN8.out.same (below_trans (Chg.below (by repeat (first | with_reducible exact Chg.refl _ _ | with_reducible exact chg0 | with_reducible refine Chg.drewN ?_ _ | with_reducible refine Chg.drew ?_ | with_reducible refine Chg.alloc ?_ _ | with_reducible refine Chg.setCell ?_ _ _ (by first | (simp; done) | omega | (simp; omega)) | with_reducible refine Chg.setBlock ?_ _ _ (by first | (simp; done) | omega | (simp; omega)) | exact Chg.refl _ _))) hb9))
        clear hb9
        go_wp2_with fail
        go_meet
        exact ⟨FC6, HN9.out.same (Chg.below (by repeat (first | with_reducible exact Chg.refl _ _ | with_reducible exact chg0 | with_reducible refine Chg.drewN ?_ _ | with_reducible refine Chg.drew ?_ | with_reducible refine Chg.alloc ?_ _ | with_reducible refine Chg.setCell ?_ _ _ (by first | (simp; done) | omega | (simp; omega)) | with_reducible refine Chg.setBlock ?_ _ _ (by first | (simp; done) | omega | (simp; omega)) | exact Chg.refl _ _)))⟩
      | false =>
        clear HBD
        go_wp2_with fail
        go_meet
        exact ⟨FC, HN5.out.same (Chg.below (by repeat (first | with_reducible exact Chg.refl _ _ | with_reducible exact chg0 | with_reducible refine Chg.drewN ?_ _ | with_reducible refine Chg.drew ?_ | with_reducible refine Chg.alloc ?_ _ | with_reducible refine Chg.setCell ?_ _ _ (by first | (simp; done) | omega | (simp; omega)) | with_reducible refine Chg.setBlock ?_ _ _ (by first | (simp; done) | omega | (simp; omega)) | exact Chg.refl _ _)))⟩
    case rest =>
    obtain ⟨F7, hN7⟩ := hcut
    have HN7 := Lib.hid hN7
    clear hN7 HN5 HR5 HBD HLO
    obtain ⟨n1, L1, n2, hi1, hi2, hbz, hnum⟩ := nothing_plain c id x.op x.draws
    have hI1 := fun (V : World) (hV : NodeIn V a (Node.new c id) F7) => NodeIssue_calls x.op x.draws hV (show (0 : Int) < 1000000000 by decide)
    rw [hi1] at hI1
    have hI2 := fun (V : World) (F : Nat → Prop) (hV : NodeIn V a n1 F) => NodeIssue_calls x.op x.draws hV hnum
    rw [hi2] at hI2
    have HI1 := Lib.hid hI1
    have HI2 := Lib.hid hI2
    have HP := Lib.hid (fun (V : World) (F : Nat → Prop) (hV : NodeIn V a n2 F) => NodePlace_calls hV)
    rw [hbz] at HP
    clear hi1 hi2 hbz hnum hI1 hI2
    obtain ⟨q, hq⟩ : ∃ q, q = (decide (0 ≤ x.op.block) && decide (x.op.block < c.blocks)) := ⟨_, rfl⟩
    have HQ := Lib.hid hq
    rw [← hq] at HI1 HP
    clear hq
    obtain ⟨rOp, _, rDr, _⟩ := actO_range (HN7.out.aside (bx, actO x) (by simp)).1
    go_upto_region 8 with fail
    go_cut [12] (fun s12 wx => s12 = .bool q ∧ ∃ F, NdA w wx a n1 F [(w.heap.size, cfgO c), (bx, actO x)])
    case first =>
      generalize x.op = op at rOp HI1
      generalize x.draws = dr at rDr HI1
      go_wp2_with (first | (refine wpList_load_row rfl 25 _ rfl bx 1 rfl op.cells rOp (by kernel_rfl) (by kernel_rfl) ?_) | (refine wpList_load_row rfl 38 _ rfl bx 15 rfl dr.cells rDr (by kernel_rfl) (by kernel_rfl) ?_))
      refine (HI1.out _ HN7.out.node.here).mono ?_
      rintro e w8 ⟨F8, u1, u2, rfl, hs8⟩
      obtain ⟨B1, i1, s1, e1⟩ := hs8.letters.shape
      obtain ⟨B2, i2, s2, e2⟩ := hs8.done.shape
      subst e1
      subst e2
      have HN8 := Lib.hid (HN7.out.sent hs8)
      clear hs8
      go_wp2_with fail
      go_meet
      exact ⟨rfl, F8, HN8.out.same (Chg.below (by repeat (first | with_reducible exact Chg.refl _ _ | with_reducible exact chg0 | with_reducible refine Chg.drewN ?_ _ | with_reducible refine Chg.drew ?_ | with_reducible refine Chg.alloc ?_ _ | with_reducible refine Chg.setCell ?_ _ _ (by first | (simp; done) | omega | (simp; omega)) | with_reducible refine Chg.setBlock ?_ _ _ (by first | (simp; done) | omega | (simp; omega)) | exact Chg.refl _ _)))⟩
    case rest =>
    obtain ⟨rfl, F8, hN8⟩ := hcut
    have HN8 := Lib.hid hN8
    clear hN8 HN7 HI1 rOp rDr
    obtain ⟨rOp, _, rDr, _⟩ := actO_range (HN8.out.aside (bx, actO x) (by simp)).1
    go_upto_region 9 with fail
    go_cut [13, 14] (fun s13 s14 wx => s14 = .bool false ∧ ∃ F t v2, s13 = .pointer (some ⟨t, 0, none⟩) ∧ NdA w wx a n2 F [(w.heap.size, cfgO c), (bx, actO x)] ∧ ∃ B s, ob wx t = some (outO (.slice B 0 s) v2))
    case first =>
      have hI3 := fun (V : World) (hV : NodeIn V a n1 F8) => HI2.out V F8 hV
      have HI3 := Lib.hid hI3
      clear hI3
      generalize x.op = op at rOp HI3
      generalize x.draws = dr at rDr HI3
      go_wp2_with (first | (refine wpList_load_row rfl 25 _ rfl bx 1 rfl op.cells rOp (by kernel_rfl) (by kernel_rfl) ?_) | (refine wpList_load_row rfl 38 _ rfl bx 15 rfl dr.cells rDr (by kernel_rfl) (by kernel_rfl) ?_))
      refine (HI3.out _ HN8.out.node.here).mono ?_
      rintro e w9 ⟨F9, u1, u2, rfl, hs9⟩
      obtain ⟨B1, s1, e1⟩ := hs9.letters.form
      obtain ⟨B2, s2, e2⟩ := hs9.done.form
      simp only [List.map_nil, List.length_nil] at e1 e2
      subst e1
      subst e2
      have HN9 := Lib.hid (HN8.out.sent hs9)
      clear hs9
      go_wp2_with fail
      go_meet
      exact ⟨rfl, F9, _, _, rfl, HN9.out.same (Chg.below (by repeat (first | with_reducible exact Chg.refl _ _ | with_reducible exact chg0 | with_reducible refine Chg.drewN ?_ _ | with_reducible refine Chg.drew ?_ | with_reducible refine Chg.alloc ?_ _ | with_reducible refine Chg.setCell ?_ _ _ (by first | (simp; done) | omega | (simp; omega)) | with_reducible refine Chg.setBlock ?_ _ _ (by first | (simp; done) | omega | (simp; omega)) | exact Chg.refl _ _))), B1, s1, ob_alloc_at _ _⟩
    case rest =>
    obtain ⟨rfl, F9, t, v2, rfl, hN9, B1, s1, ho9⟩ := hcut
    have HN9 := Lib.hid hN9
    obtain ⟨z0, _, _, lz⟩ := outO_cells ho9
    have oA := (hN9.aside (bx, actO x) (by simp)).1
    have x1 : wc.cell? ⟨bx, 1, none⟩ = some (.int .i64 x.op.block) := cell_ob oA 1
    have lA := ob_lt oA
    have oC : cfgOb wc w.heap.size c := hN9.head.1
    obtain ⟨c0, c1, c2, c3, c4, c5, c6, c7, c8, cf, cl⟩ := ob_cells9 oC
    have hfld := placeBusy
    clear oA oC hN9 ho9 HN8 rOp rDr HI2
    by_cases q1 : 0 ≤ x.op.block
    · by_cases q2 : x.op.block < c.blocks
      · have hq : q = true := by rw [HQ.out]; simp [q1, q2]
        subst hq
        clear HQ
        go_wp2_with fail
        refine (HP.out _ _ (HN9.out.same (Chg.below (by repeat (first | with_reducible exact Chg.refl _ _ | with_reducible exact chg0 | with_reducible refine Chg.drewN ?_ _ | with_reducible refine Chg.drew ?_ | with_reducible refine Chg.alloc ?_ _ | with_reducible refine Chg.setCell ?_ _ _ (by first | (simp; done) | omega | (simp; omega)) | with_reducible refine Chg.setBlock ?_ _ _ (by first | (simp; done) | omega | (simp; omega)) | exact Chg.refl _ _)))).node.here).mono ?_
        rintro e w10 ⟨u1, u2, rfl, _, _, hb10⟩
        go_wp2_with fail
        go_ret
        exact ⟨rfl, below_trans HN9.out.node.below (below_trans (below_trans (Chg.below (by repeat (first | with_reducible exact Chg.refl _ _ | with_reducible exact chg0 | with_reducible refine Chg.drewN ?_ _ | with_reducible refine Chg.drew ?_ | with_reducible refine Chg.alloc ?_ _ | with_reducible refine Chg.setCell ?_ _ _ (by first | (simp; done) | omega | (simp; omega)) | with_reducible refine Chg.setBlock ?_ _ _ (by first | (simp; done) | omega | (simp; omega)) | exact Chg.refl _ _))) hb10) (Chg.below (by repeat (first | with_reducible exact Chg.refl _ _ | with_reducible exact chg0 | with_reducible refine Chg.drewN ?_ _ | with_reducible refine Chg.drew ?_ | with_reducible refine Chg.alloc ?_ _ | with_reducible refine Chg.setCell ?_ _ _ (by first | (simp; done) | omega | (simp; omega)) | with_reducible refine Chg.setBlock ?_ _ _ (by first | (simp; done) | omega | (simp; omega)) | exact Chg.refl _ _))))⟩
      · have hq : q = false := by rw [HQ.out]; simp [q2]
        subst hq
        clear HQ
        have q2' : decide (x.op.block < c.blocks) = false := by simpa using q2
        go_wp2_with fail
        refine (HP.out _ _ (HN9.out.same (Chg.below (by repeat (first | with_reducible exact Chg.refl _ _ | with_reducible exact chg0 | with_reducible refine Chg.drewN ?_ _ | with_reducible refine Chg.drew ?_ | with_reducible refine Chg.alloc ?_ _ | with_reducible refine Chg.setCell ?_ _ _ (by first | (simp; done) | omega | (simp; omega)) | with_reducible refine Chg.setBlock ?_ _ _ (by first | (simp; done) | omega | (simp; omega)) | exact Chg.refl _ _)))).node.here).mono ?_
        rintro e w10 ⟨u1, u2, rfl, _, _, hb10⟩
        go_wp2_with fail
        go_ret
        exact ⟨rfl, below_trans HN9.out.node.below (below_trans (below_trans (Chg.below (by repeat (first | with_reducible exact Chg.refl _ _ | with_reducible exact chg0 | with_reducible refine Chg.drewN ?_ _ | with_reducible refine Chg.drew ?_ | with_reducible refine Chg.alloc ?_ _ | with_reducible refine Chg.setCell ?_ _ _ (by first | (simp; done) | omega | (simp; omega)) | with_reducible refine Chg.setBlock ?_ _ _ (by first | (simp; done) | omega | (simp; omega)) | exact Chg.refl _ _))) hb10) (Chg.below (by repeat (first | with_reducible exact Chg.refl _ _ | with_reducible exact chg0 | with_reducible refine Chg.drewN ?_ _ | with_reducible refine Chg.drew ?_ | with_reducible refine Chg.alloc ?_ _ | with_reducible refine Chg.setCell ?_ _ _ (by first | (simp; done) | omega | (simp; omega)) | with_reducible refine Chg.setBlock ?_ _ _ (by first | (simp; done) | omega | (simp; omega)) | exact Chg.refl _ _))))⟩
    · have hq : q = false := by rw [HQ.out]; simp [q1]
      subst hq
      clear HQ
      have q1' : decide (0 ≤ x.op.block) = false := by simpa using q1
      go_wp2_with fail
      refine (HP.out _ _ (HN9.out.same (Chg.below (by repeat (first | with_reducible exact Chg.refl _ _ | with_reducible exact chg0 | with_reducible refine Chg.drewN ?_ _ | with_reducible refine Chg.drew ?_ | with_reducible refine Chg.alloc ?_ _ | with_reducible refine Chg.setCell ?_ _ _ (by first | (simp; done) | omega | (simp; omega)) | with_reducible refine Chg.setBlock ?_ _ _ (by first | (simp; done) | omega | (simp; omega)) | exact Chg.refl _ _)))).node.here).mono ?_
      rintro e w10 ⟨u1, u2, rfl, _, _, hb10⟩
      go_wp2_with fail
      go_ret
      exact ⟨rfl, below_trans HN9.out.node.below (below_trans (below_trans (Chg.below (by repeat (first | with_reducible exact Chg.refl _ _ | with_reducible exact chg0 | with_reducible refine Chg.drewN ?_ _ | with_reducible refine Chg.drew ?_ | with_reducible refine Chg.alloc ?_ _ | with_reducible refine Chg.setCell ?_ _ _ (by first | (simp; done) | omega | (simp; omega)) | with_reducible refine Chg.setBlock ?_ _ _ (by first | (simp; done) | omega | (simp; omega)) | exact Chg.refl _ _))) hb10) (Chg.below (by repeat (first | with_reducible exact Chg.refl _ _ | with_reducible exact chg0 | with_reducible refine Chg.drewN ?_ _ | with_reducible refine Chg.drew ?_ | with_reducible refine Chg.alloc ?_ _ | with_reducible refine Chg.setCell ?_ _ _ (by first | (simp; done) | omega | (simp; omega)) | with_reducible refine Chg.setBlock ?_ _ _ (by first | (simp; done) | omega | (simp; omega)) | exact Chg.refl _ _))))⟩
  · have HMN := Lib.hid (fun V => made15_no c id none 0 0 V (fun h => hf ⟨h.1, h.2.1⟩))
    simp only [Config.val, Config.cells, Act15.val, Int.natCast_zero] at HMN ⊢
    clear hf
    generalize hcs : x.cells = CS
    go_enter Tryz.func4, Tryz.ntmps4
    go_wp2_with fail
    refine (HMN.out _).mono ?_
    rintro e w1 ⟨rfl, hb1⟩
    have HB1 := Lib.hid (show Below w.heap.size w w1 from below_trans (Chg.below (by repeat (first | with_reducible exact Chg.refl _ _ | with_reducible exact chg0 | with_reducible refine Chg.drewN ?_ _ | with_reducible refine Chg.drew ?_ | with_reducible refine Chg.alloc ?_ _ | with_reducible refine Chg.setCell ?_ _ _ (by first | (simp; done) | omega | (simp; omega)) | with_reducible refine Chg.setBlock ?_ _ _ (by first | (simp; done) | omega | (simp; omega)) | exact Chg.refl _ _))) hb1)
    clear hb1
    go_wp2_with fail
    refine (ndAwake_calls _).mono ?_
    rintro e w2 ⟨rfl, hb2⟩
    go_wp2_with fail
    refine (ndAwake_calls _).mono ?_
    rintro e w3 ⟨rfl, hb3⟩
    go_wp2_with fail
    go_ret
    exact ⟨rfl, below_trans HB1.out (below_trans (below_trans (Chg.below (by repeat (first | with_reducible exact Chg.refl _ _ | with_reducible exact chg0 | with_reducible refine Chg.drewN ?_ _ | with_reducible refine Chg.drew ?_ | with_reducible refine Chg.alloc ?_ _ | with_reducible refine Chg.setCell ?_ _ _ (by first | (simp; done) | omega | (simp; omega)) | with_reducible refine Chg.setBlock ?_ _ _ (by first | (simp; done) | omega | (simp; omega)) | exact Chg.refl _ _))) hb2) (below_trans (Chg.below (by repeat (first | with_reducible exact Chg.refl _ _ | with_reducible exact chg0 | with_reducible refine Chg.drewN ?_ _ | with_reducible refine Chg.drew ?_ | with_reducible refine Chg.alloc ?_ _ | with_reducible refine Chg.setCell ?_ _ _ (by first | (simp; done) | omega | (simp; omega)) | with_reducible refine Chg.setBlock ?_ _ _ (by first | (simp; done) | omega | (simp; omega)) | exact Chg.refl _ _))) hb3))⟩
set_option maxRecDepth 100000 in
theorem nodeNothing_lifted (os : Os) (started : os.Started) (H : Type) (enc : TypeId × Value → H) :
    ReturnsInHanded {} Tryz.checked os 4 .any (Rows.nodeNothingSpec.pre6 enc Tryz.prog Tryz.f4 Rows.nodeNothingRow.domain false) (Rows.nodeNothingSpec.post enc Tryz.prog Tryz.f4 false true false false) := by
  refine returnsInHanded_of_change (C := Tryz.checked) law_own started (by kernel_rfl) Tryz.func4
    (ChangeSpec.witness6 (enc := enc) (C := Tryz.checked) false ⟨#[], #[.agg #[.int .i64 0, .int .i64 0, .int .i64 0, .int .i64 0, .int .i64 0, .int .i64 0, .int .i64 0, .int .i64 0, .int .i64 0], .int .i64 0, .agg #[.int .i64 0, .int .i64 0, .bool false, .int .i64 0, .int .i64 0, .int .i64 0, .int .i64 0, .int .i64 0, .int .i64 0, .int .i64 0, .bool false, .int .i64 0, .bool false, .bool false, .int .i64 0, .int .i64 0, .int .i64 0, .int .i64 0]], []⟩ 8 (by kernel_rfl) (by kernel_rfl) (by kernel_rfl) (by kernel_rfl)) ?_
  intro W base args ds gs before hval0 hW hcnd _
  have hval : ∀ (j : Nat) t v, Tryz.f4.params[j]? = some t → args[j]? = some v → Value.okWide Tryz.prog W .any base t v := hval0
  have hW' := hW
  obtain ⟨p, q, hA0, hV, rfl, hfz, hnd⟩ := hW
  have hA : DataW.TrodAll enc Tryz.prog W 0 (fun _ => true) true Tryz.f4.params.toList args.toList ds p := hA0
  rw [Tryz.params4] at hA hval
  obtain ⟨v0, vs0, d0, ds0, p0, q0, hargs, rfl, rfl, h0, r0⟩ := trodAll_cons hA
  obtain ⟨v1, vs1, d1, ds1, p1, q1, rfl, rfl, rfl, h1, r1⟩ := trodAll_cons r0
  obtain ⟨v2, vs2, d2, ds2, p2, q2, rfl, rfl, rfl, h2, r2⟩ := trodAll_cons r1
  obtain ⟨rfl, rfl, rfl⟩ := trodAll_nil r2
  obtain rfl : args = #[v0, v1, v2] := by cases args; simp_all
  obtain ⟨rfl, rfl⟩ := trodVars_none hV
  have k0 := h0
  have lt0 : ∀ x ∈ p0, x.block < W.heap.size := by obtain ⟨m, hm⟩ := k0; exact DataW.trod_lt m _ _ _ hm
  obtain ⟨f0, g0⟩ := h0
  obtain ⟨cs0, rfl, _⟩ := okWide_struct Tryz.underlying23 (hval 0 23 v0 rfl rfl)
  obtain ⟨x0, e0, o0⟩ := Config.of_trod g0
  obtain rfl : cs0 = x0.cells.toArray := by simp only [Value.cells] at e0; rw [← e0]
  have k1 := h1
  have lt1 : ∀ x ∈ p1, x.block < W.heap.size := by obtain ⟨m, hm⟩ := k1; exact DataW.trod_lt m _ _ _ hm
  obtain ⟨f1, g1⟩ := h1
  obtain ⟨x1, e1, o1⟩ := int_of_trod g1
  obtain rfl := one_value (hval 1 3 v1 rfl rfl) Tryz.underlying3 e1
  have k2 := h2
  have lt2 : ∀ x ∈ p2, x.block < W.heap.size := by obtain ⟨m, hm⟩ := k2; exact DataW.trod_lt m _ _ _ hm
  obtain ⟨f2, g2⟩ := h2
  obtain ⟨cs2, rfl, _⟩ := okWide_struct Tryz.underlying46 (hval 2 46 v2 rfl rfl)
  obtain ⟨x2, e2, o2⟩ := Act15.of_trod g2
  obtain rfl : cs2 = x2.cells.toArray := by simp only [Value.cells] at e2; rw [← e2]
  clear hA0 hval0
  refine (nodeNothing_walk x0 o0 x1 o1 x2 o2 W).mono fun e W' ⟨he, bel⟩ => ?_
  subst he
  exact ⟨_, rfl, _, _, _, [], _, [], hW', trodAll_mk1 (shut_bool Tryz.underlying4 _), (trodAll_cons_mk (Below.trod law_laidOut (by kernel_rfl) (of_decide_eq_true (by kernel_rfl)) k0 bel lt0) (trodAll_cons_mk (Below.trod law_laidOut (by kernel_rfl) (of_decide_eq_true (by kernel_rfl)) k1 bel lt1) (trodAll_cons_mk (Below.trod law_laidOut (by kernel_rfl) (of_decide_eq_true (by kernel_rfl)) k2 bel lt2) trodAll_mk0))), rfl, bel.frame _, fun h => by cases h⟩

theorem nodeNothing_holds : Rows.NodeNothingSaid :=
  OpenClaim.holds_of_wide 4 Tryz.f4 rfl rfl rfl rfl rfl rfl rfl ⟨rfl, rfl, rfl, rfl, rfl⟩ rfl rfl rfl rfl rfl (by kernel_rfl) Tryz.func4 (by kernel_rfl)
    (of_decide_eq_true (by kernel_rfl)) (by unfold Func.isWrapper; first | (rw [if_pos (by decide +kernel)]; kernel_rfl) | (rw [if_neg (by decide +kernel)]; exact ⟨rfl, rfl⟩))
    (fun os started H enc _ => nodeNothing_lifted os started H enc)
end Go.Proofs.YtchlioikkhnidaaGreat
