/-
  RegisterBlocks: of operations that are right those of one block, counted anew, are right. No condition.
-/
import Derived.Test.YtlgancadedlbiaaRegLaws
namespace Go.Proofs.Ytlgancadedlbiaa
open Go.RowKit Go.ChangeShapes Go.WideShapes Go.ChangeAt
open Go.ChangeMaps (setBlock)
set_option linter.unusedVariables false

def bump (g : Int → Int) (n : Int) : Int → Int := fun k => if k = n then wrap64 (g n + 1) else g k
def Done.counted (d : Done) (g : Int → Int) : Done := { d with number := wrap64 (g d.node + 1) }
/-- The operations of one block, counted anew. -/
def ofBlock (b : Int) : (Int → Int) → List Done → List Done
  | _, [] => []
  | g, d :: l => if d.op.block = b then d.counted g :: ofBlock b (bump g d.node) l else ofBlock b g l
theorem ofBlock_length (b : Int) : ∀ (l : List Done) (g : Int → Int), (ofBlock b g l).length ≤ l.length
  | [], _ => Nat.le_refl _
  | d :: l, g => by
    unfold ofBlock
    split
    · have := ofBlock_length b l (bump g d.node); simp; omega
    · have := ofBlock_length b l g; simp; omega

theorem blocks_run (b : Int) : ∀ (l : List Done) (s t : Regs) (i j : Nat), t.values b = s.values b → t.step ≤ s.step → s.run l i = none → t.run (ofBlock b t.done l) j = none
  | [], s, t, i, j, hv, hs, h => rfl
  | d :: l, s, t, i, j, hv, hs, h => by
    simp only [Regs.run] at h
    by_cases hd : s.does d = true
    · rw [if_pos hd] at h
      have hd' := hd
      simp only [Regs.does, Bool.and_eq_true, decide_eq_true_eq] at hd'
      unfold ofBlock
      by_cases hb : d.op.block = b
      · rw [if_pos hb]
        have ht : t.does (d.counted t.done) = true := by
          simp only [Regs.does, Done.counted, Regs.want, Bool.and_eq_true, decide_eq_true_eq]
          refine ⟨⟨trivial, decide_eq_true (Int.le_trans hs hd'.1.2)⟩, ?_⟩
          have := hd'.2
          simp only [Regs.want, hb] at this ⊢
          rw [hv, ← this]; exact decide_eq_true rfl
        rw [Regs.run, if_pos ht]
        have e : (t.after (d.counted t.done)).done = bump t.done d.node := by
          funext k
          rw [Regs.after, if_pos ht]
          rfl
        rw [← e]
        refine blocks_run b l (s.after d) _ (i + 1) (j + 1) ?_ ?_ h
        · rw [Regs.after, if_pos ht, Regs.after, if_pos hd]
          simp only [Done.counted, Regs.want, hb, if_true, hv]
        · rw [Regs.after, if_pos ht, Regs.after, if_pos hd]; exact Int.le_refl _
      · rw [if_neg hb]
        refine blocks_run b l (s.after d) t (i + 1) j ?_ ?_ h
        · simp only [Regs.after, hd, if_true, if_neg (fun e => hb (Eq.symm e) : ¬ b = d.op.block), hv]
        · simp only [Regs.after, hd, if_true]; exact Int.le_trans hs hd'.1.2
    · rw [if_neg hd] at h; cases h

theorem bump_map {g : Int → Int} {f : Int → Option Value} (h : IntMap g f) (n : Int) : IntMap (bump g n) (upd f n (.int .i64 (wrap64 (g n + 1)))) := by
  intro j
  unfold Ytlgancadedlbiaa.upd bump
  split
  · rename_i e; simp
  · rename_i e; simp [h j]

theorem map_apart {w : World} {mb : Nat} {o : Obj} {f : Int → Option Value} {v : Value} {rows : List (List Value)} (hb : ob w mb = some o) (ho : MapObj o f) (h : OwnSl w 33 7 v rows) : ∀ k, v.ownBlock = some k → k ≠ mb := by
  rintro k hk rfl
  obtain ⟨c, hc⟩ := h.typed hk
  obtain ⟨_, _, e1, _⟩ := ho
  rw [hb, e1] at hc; cases hc

set_option maxHeartbeats 4000000 in
theorem registerBlocks_walk (l : List Done) (v : Value) (w : World) (hsl : SliceIs w 7 v (l.map Done.cells)) (hok : ∀ d ∈ l, d.ok) (blk : Int) (hblk : i64ok blk) :
    Calls Try.prog 6 #[v, .int .i64 blk] w fun e w' => e = .returned (.bool true) ∧ Below w.heap.size w w' := by
  have hmm := @run_makeMap Try.prog
  have HL := Lib.hid hsl
  obtain ⟨A, cap, rfl, h1, h2, h3⟩ := hsl
  simp only [List.length_map] at h1 h2 h3 HL ⊢
  have H3 := Lib.hid h3
  clear h3 hok
  go_enter Try.func6, Try.ntmps6
  by_cases h200 : (200 : Int) < (l.length : Int)
  · go_wp2_with (go_at_call 7; refine (regAwake_calls _).mono ?_; rintro e w1 ⟨rfl, hb1⟩)
    go_ret
    exact ⟨rfl, below_trans ‹Below w.heap.size w _› hb1⟩
  have h200' : decide ((200 : Int) < (l.length : Int)) = false := by simpa using h200
  go_wp2_with fail
  refine (regAwake_calls _).mono ?_
  rintro e w1 ⟨rfl, hb1⟩
  go_wp2_with (at_builtin; refine wpList_append_sl (xs := []) (ys := l.map Done.cells) rfl _ _ rfl tyDones rfl rfl (OwnSl.made (c := #[]) (ob_alloc_new _ _ _ (by simp)) RowsOk.nil rfl (by decide)) (HL.out.below (below_trans hb1 (Chg.below (by repeat (first | exact Chg.refl _ _ | refine Chg.drewN ?_ _ | refine Chg.drew ?_ | refine Chg.alloc ?_ _ | refine Chg.setCell ?_ _ _ (by simp) | refine Chg.setBlock ?_ _ _ (by simp)))))) (dones_ok l) (by simp; omega) ?_; intro v2 w2 ho hc _)
  have b2 : Below w.heap.size w w2 := below_chg (below_trans hb1 (Chg.below (by repeat (first | exact Chg.refl _ _ | refine Chg.drewN ?_ _ | refine Chg.drew ?_ | refine Chg.alloc ?_ _ | refine Chg.setCell ?_ _ _ (by simp) | refine Chg.setBlock ?_ _ _ (by simp))))) hc (fun k hk he => by have he' : w1.heap.size = k := Option.some.inj he; have := hb1.size; omega)
  refine (Check_calls l _ _ ho.slice).mono ?_
  rintro e w3 ⟨rfl, hb3⟩
  have b3 := below_trans b2 hb3
  clear ho hc b2 hb3
  cases hr : Regs.init.run l 0 with
  | some i =>
    simp only [outB, Option.isNone]
    go_wp2_with fail
    go_ret
    exact ⟨rfl, b3⟩
  | none =>
    simp only [outB, Option.isNone]
    have hfin := Lib.hid (blocks_run blk l Regs.init Regs.init 0 0 rfl (Int.le_refl _) hr)
    clear hr
    go_wp2_with fail
    have bm := ob_alloc_at w3 (.map #[] 0)
    have s3 := b3.size
    go_loopw [8, 33] (fun v i wr => ∃ (k : Nat) (g : Int → Int) (D : List Done), k ≤ l.length ∧ i = .int .i64 k ∧ D.length ≤ k ∧ D ++ ofBlock blk g (l.drop k) = ofBlock blk Regs.init.done l ∧ (∃ o f, ob wr w3.heap.size = some o ∧ MapObj o f ∧ IntMap g f) ∧ OwnSl wr 33 7 v (D.map Done.cells) ∧ (∀ j, v.ownBlock = some j → w.heap.size ≤ j) ∧ Below w.heap.size w wr) (fun _ i _ => l.length - (intOf i).toNat)
    case atStart => exact ⟨0, Regs.init.done, [], Nat.zero_le _, rfl, Nat.le_refl _, rfl, ⟨_, _, bm, MapObj.empty 0, fun _ => rfl⟩, OwnSl.nil, fun j hj => by simp [Value.ownBlock] at hj, below_trans b3 (Chg.below (by repeat (first | exact Chg.refl _ _ | refine Chg.drewN ?_ _ | refine Chg.drew ?_ | refine Chg.alloc ?_ _ | refine Chg.setCell ?_ _ _ (by simp) | refine Chg.setBlock ?_ _ _ (by simp))))⟩
    case round =>
      obtain ⟨k, g, D, hk, rfl, hDk, heq, ⟨om, f, hm, hom, him⟩, hown, hlo, hbr⟩ := hrel
      have Hm := Lib.hid hm
      have Hom := Lib.hid hom
      have Him := Lib.hid him
      have Heq := Lib.hid heq
      have Hown := Lib.hid hown
      have Hlo := Lib.hid hlo
      have Hbr := Lib.hid hbr
      clear heq hown hlo hbr hm him b3 bm
      by_cases hlt : k < l.length
      · obtain ⟨q, off, rfl, hrows⟩ := H3.out (by omega)
        have hrow := doneAt hrows Hbr.out hlt
        obtain ⟨d, hd⟩ : ∃ d, d = l[k] := ⟨_, rfl⟩
        rw [← hd] at hrow
        obtain ⟨c0, c1, c2, c3, c4, c5, c6⟩ := Done.range hrow
        have hdrop : l.drop k = d :: l.drop (k + 1) := by rw [hd]; exact List.drop_eq_getElem_cons hlt
        have Hdrop := Lib.hid hdrop
        clear hdrop hd hrow hrows
        have sr := Hbr.out.size
        have lmr := ob_lt Hm.out
        by_cases hb : d.op.block = blk
        case neg =>
          have hb1 : (d.op.block != blk) = true := by simpa using hb
          have hb2 : decide (d.op.block = blk) = false := by simpa using hb
          have Hb := Lib.hid hb
          clear hb hom
          go_wp2_with fail
          exact ⟨⟨k + 1, g, D, by omega, by go_num, by omega, by rw [← Heq.out, Hdrop.out, ofBlock, if_neg Hb.out], ⟨om, f, by simp [go_sem, Hm.out, lmr], Hom.out, Him.out⟩, Hown.out.chg (S := fun _ => False) (by repeat (first | exact Chg.refl _ _ | refine Chg.drewN ?_ _ | refine Chg.drew ?_ | refine Chg.alloc ?_ _ | refine Chg.setCell ?_ _ _ (by simp) | refine Chg.setBlock ?_ _ _ (by simp))) (fun _ _ h => h), Hlo.out, below_trans Hbr.out (Chg.below (by repeat (first | exact Chg.refl _ _ | refine Chg.drewN ?_ _ | refine Chg.drew ?_ | refine Chg.alloc ?_ _ | refine Chg.setCell ?_ _ _ (by simp) | refine Chg.setBlock ?_ _ _ (by simp))))⟩, by simp [intOf]; omega⟩
        have hb1 : (d.op.block != blk) = false := by simpa using hb
        have Hb := Lib.hid hb
        clear hb
        have hlk : ∀ W : World, ob W w3.heap.size = some om → (Instr.lookup 39 (.map (some w3.heap.size)) (.int .i64 d.node) false).run Try.prog W = .ok (.int .i64 (g d.node)) W := fun W hW => by
          rw [hom.lookup tyII d.node _ W hW, Him.out]
        obtain ⟨o2, hom2, hmu⟩ := hom.update tyII d.node (.int .i64 (wrap64 (g d.node + 1))) w3.heap.size
        have hlk2 : ∀ W : World, ob W w3.heap.size = some o2 → (Instr.lookup 39 (.map (some w3.heap.size)) (.int .i64 d.node) false).run Try.prog W = .ok (.int .i64 (wrap64 (g d.node + 1))) W := fun W hW => by
          rw [hom2.lookup tyII d.node _ W hW]; simp [Ytlgancadedlbiaa.upd]
        have Hom2 := Lib.hid hom2
        clear hom hom2
        have hm := Hm.out
        have lm1 : w3.heap.size < wr.heap.size + 1 := by omega
        have hap := map_apart hm Hom.out Hown.out
        go_wp2_with (at_builtin; refine wpList_append_sl (xs := D.map Done.cells) (ys := [(d.counted g).cells]) rfl _ _ rfl tyDones rfl rfl (Hown.out.chg (S := fun j => j = w3.heap.size) (by repeat (first | exact Chg.refl _ _ | refine Chg.alloc ?_ _ | refine Chg.setCell ?_ _ _ (by simp) | refine Chg.setBlock ?_ _ _ (fun _ => rfl))) hap) (OwnSl.made (e := 33) (c := #[.int .i64 d.node, .int .i64 (wrap64 (g d.node + 1)), .int .i64 d.op.block, .bool d.op.write, .int .i64 d.op.value, .int .i64 d.value, .int .i64 d.step]) (b := wr.heap.size + 1) (ob_alloc_new _ _ _ (by simp [go_sem])) (dones_ok [d.counted g]) rfl (by simp)).slice (dones_ok [d.counted g]) (by simp; omega) ?_; intro v5 w5 ho hc hloc)
        have hcc : Chg (fun j => j = w3.heap.size ∨ u8.ownBlock = some j) wr w5 := Chg.trans (S' := fun j => u8.ownBlock = some j) (by repeat (first | exact Chg.refl _ _ | refine Chg.alloc ?_ _ | refine Chg.setCell ?_ _ _ (by simp) | refine Chg.setBlock ?_ _ _ (fun _ => .inl rfl))) hc (fun _ _ h => .inr h)
        have s5 := hc.size
        refine ⟨⟨k + 1, bump g d.node, D ++ [d.counted g], by omega, by go_num, by simp; omega, by rw [← Heq.out, Hdrop.out, ofBlock, if_pos Hb.out]; simp, ⟨o2, _, ?_, Hom2.out, bump_map Him.out _⟩, by rw [List.map_append]; exact ho, ?_, below_chg Hbr.out hcc ?_⟩, by simp [intOf]; omega⟩
        · exact hc.ob (by simp [go_sem, lm1, Nat.ne_of_lt lmr]) (fun he => hap _ he rfl)
        · intro j hj
          rcases hloc with h | h
          · rw [h] at hj; exact Hlo.out j hj
          · rw [h] at hj; injection hj with hj; rw [← hj]; simp [go_sem]; omega
        · rintro j hj (rfl | he)
          · omega
          · have := Hlo.out j he; omega
      · go_wp2_with fail
        refine (Check_calls (ofBlock blk Regs.init.done l) _ _ ?_).mono ?_
        · rw [← Heq.out, List.drop_of_length_le (by omega)]
          simp only [ofBlock, List.append_nil]
          exact Hown.out.slice
        · rintro e w4 ⟨rfl, hb4⟩
          rw [hfin.out]
          go_wp2_with fail
          go_ret
          exact ⟨rfl, below_trans Hbr.out hb4⟩
set_option maxRecDepth 100000 in
theorem registerBlocks_lifted (os : Os) (started : os.Started) (H : Type) (enc : TypeId × Value → H) :
    ReturnsInHanded {} Try.checked os 6 .any (Rows.registerBlocksSpec.pre6 enc Try.prog Try.f6 Rows.registerBlocksRow.domain false) (Rows.registerBlocksSpec.post enc Try.prog Try.f6 false true false false) := by
  refine returnsInHanded_of_change (C := Try.checked) law_own started (by kernel_rfl) Try.func6
    (ChangeSpec.witness6 (enc := enc) (C := Try.checked) false ⟨#[], #[.slice none 0 0, .int .i64 0], []⟩ 8 (by kernel_rfl) (by kernel_rfl) (by kernel_rfl) (by kernel_rfl)) ?_
  intro W base args ds gs before hval0 hW hcnd _
  have hval : ∀ (j : Nat) t v, Try.f6.params[j]? = some t → args[j]? = some v → Value.okWide Try.prog W .any base t v := hval0
  have hW' := hW
  obtain ⟨p, q, hA0, hV, rfl, hfz, hnd⟩ := hW
  have hA : DataW.TrodAll enc Try.prog W 0 (fun _ => true) true Try.f6.params.toList args.toList ds p := hA0
  rw [Try.params6] at hA hval
  obtain ⟨v0, vs0, d0, ds0, p0, q0, hargs, rfl, rfl, h0, r0⟩ := trodAll_cons hA
  obtain ⟨v1, vs1, d1, ds1, p1, q1, rfl, rfl, rfl, h1, r1⟩ := trodAll_cons r0
  obtain ⟨rfl, rfl, rfl⟩ := trodAll_nil r1
  obtain rfl : args = #[v0, v1] := by cases args; simp_all
  obtain ⟨rfl, rfl⟩ := trodVars_none hV
  have k0 := h0
  have lt0 : ∀ x ∈ p0, x.block < W.heap.size := by obtain ⟨m, hm⟩ := k0; exact DataW.trod_lt m _ _ _ hm
  obtain ⟨f0, g0⟩ := h0
  obtain ⟨l0, s0, o0⟩ := slice_of_trod (sz := 7) (cells := Done.cells) (ok := Done.ok) Try.underlying22 (by kernel_rfl) (by decide) (fun _ => rfl) Done.of_trod g0 (okWide_slice Try.underlying22 (hval 0 22 v0 rfl rfl))
  have k1 := h1
  have lt1 : ∀ x ∈ p1, x.block < W.heap.size := by obtain ⟨m, hm⟩ := k1; exact DataW.trod_lt m _ _ _ hm
  obtain ⟨f1, g1⟩ := h1
  obtain ⟨x1, e1, o1⟩ := int_of_trod g1
  obtain rfl := one_value (hval 1 3 v1 rfl rfl) Try.underlying3 e1
  clear hA0 hval0
  refine (registerBlocks_walk l0 v0 W s0 o0 x1 o1).mono fun e W' ⟨he, bel⟩ => ?_
  subst he
  exact ⟨_, rfl, _, _, _, [], _, [], hW', trodAll_mk1 (shut_bool Try.underlying4 _), (trodAll_cons_mk (Below.trod law_laidOut (by kernel_rfl) (of_decide_eq_true (by kernel_rfl)) k0 bel lt0) (trodAll_cons_mk (Below.trod law_laidOut (by kernel_rfl) (of_decide_eq_true (by kernel_rfl)) k1 bel lt1) trodAll_mk0)), rfl, bel.frame _, fun h => by cases h⟩

theorem registerBlocks_holds : Rows.RegisterBlocksSaid :=
  OpenClaim.holds_of_wide 6 Try.f6 rfl rfl rfl rfl rfl rfl rfl ⟨rfl, rfl, rfl, rfl, rfl⟩ rfl rfl rfl rfl rfl (by kernel_rfl) Try.func6 (by kernel_rfl)
    (of_decide_eq_true (by kernel_rfl)) (by unfold Func.isWrapper; first | (rw [if_pos (by decide +kernel)]; kernel_rfl) | (rw [if_neg (by decide +kernel)]; exact ⟨rfl, rfl⟩))
    (fun os started H enc _ => registerBlocks_lifted os started H enc)
end Go.Proofs.Ytlgancadedlbiaa
