/-
  The document's node: where it lies; what it asks, and whether it has asked.
-/
import Derived.Test.YtchlioikkhnidaaGreatMD1
import Derived.Test.YtchlioikkhnidaaGreatML
import Derived.Test.YtchlioikkhnidaaGreatMN4
import Derived.Test.YtchlioikkhnidaaGreatMN5
import Derived.Test.YtchlioikkhnidaaGreatMC
set_option linter.unusedVariables false
set_option linter.unusedSimpArgs false
namespace Go.Proofs.YtchlioikkhnidaaGreat
open Go.RowKit Go.Sort Go.ChangeShapes Go.WideShapes Go.ChangeAt
open Go.ChangeMaps (setBlock)
set_option linter.unusedVariables false
set_option linter.unusedSimpArgs false
structure RAddr where
  p : Nat
  q : Nat
  t : Nat
  c : Nat
def rCells (c : Config) (id : Int) (r : RAddr) (vA vT : Value) : Array Value := #[.int .i64 c.nodes, .int .i64 c.blocks, .int .i64 c.tokens, .int .i64 c.sets, .int .i64 c.ways, .int .i64 c.cap, .int .i64 c.wait, .int .i64 c.tries, .int .i64 c.policy, .int .i64 id, .pointer (some ⟨r.q, 0, none⟩), .pointer (some ⟨r.t, 0, none⟩), .pointer (some ⟨r.c, 0, none⟩), vA, vT]
structure RNodeIn (w : World) (r : RAddr) (n : Node) (F : Nat → Prop) (vA vT : Value) (oT : Obj) : Prop where
  at_ : ob w r.p = some (.cells (rCells n.c n.id r vA vT) 112 (0, 0))
  cache : RefCacheAt w r.q n.cache F
  tab : ob w r.t = some oT
  proc : RProcAt w r.c n.cpu
  asked : ∃ LA, OwnSl w 3 1 vA (ints LA) ∧ (LA.length ≤ 1000 ∧ ∀ b, n.asked b = decide (b ∈ LA))
  ne : r.p ≠ r.t ∧ r.p ≠ r.c ∧ r.t ≠ r.c ∧ ¬ F r.p ∧ ¬ F r.t ∧ ¬ F r.c
  apart : ∀ j, vA.ownBlock = some j → j ≠ r.p ∧ j ≠ r.t ∧ j ≠ r.c ∧ ¬ F j
  c : n.c.Fine
  id : 0 ≤ n.id ∧ n.id < n.c.nodes
def rFp (r : RAddr) (F : Nat → Prop) : Nat → Prop := fun j => j = r.p ∨ j = r.t ∨ j = r.c ∨ F j
section
variable {w w' : World} {r : RAddr} {n n' : Node} {F F' : Nat → Prop} {vA vT : Value} {oT : Obj} {S : Nat → Prop}
theorem RNodeIn.lt (h : RNodeIn w r n F vA vT oT) : ∀ j, (rFp r F j ∨ vA.ownBlock = some j) → j < w.heap.size := fun j hj => by
  rcases hj with (rfl | rfl | rfl | hj) | hj
  · exact ob_lt h.at_
  · exact ob_lt h.tab
  · exact h.proc.lt
  · exact h.cache.lt hj
  · obtain ⟨LA, h1, _⟩ := h.asked
    exact h1.lt hj
theorem RNodeIn.chg (h : RNodeIn w r n F vA vT oT) (hc : Chg S w w') (hn : ∀ j, (rFp r F j ∨ vA.ownBlock = some j) → ¬ S j) : RNodeIn w' r n F vA vT oT :=
  ⟨hc.ob h.at_ (hn _ (.inl (.inl rfl))), h.cache.chg hc (fun j hj => hn j (.inl (.inr (.inr (.inr hj))))), hc.ob h.tab (hn _ (.inl (.inr (.inl rfl)))), h.proc.chg hc (hn _ (.inl (.inr (.inr (.inl rfl))))),
    by obtain ⟨LA, h1, h2⟩ := h.asked; exact ⟨LA, h1.chg hc (fun k hk => hn k (.inr hk)), h2⟩, h.ne, h.apart, h.c, h.id⟩
theorem RNodeIn.below (h : RNodeIn w r n F vA vT oT) (hb : Below w.heap.size w w') : RNodeIn w' r n F vA vT oT := h.chg (S := fun _ => False) (Chg.of_below hb) fun _ _ h => h
theorem RNodeIn.cOb (h : RNodeIn w r n F vA vT oT) : w.cell? ⟨r.p, 0, none⟩ = some (.int .i64 n.c.nodes) ∧ w.cell? ⟨r.p, 1, none⟩ = some (.int .i64 n.c.blocks) ∧ w.cell? ⟨r.p, 2, none⟩ = some (.int .i64 n.c.tokens) ∧ w.cell? ⟨r.p, 3, none⟩ = some (.int .i64 n.c.sets) ∧ w.cell? ⟨r.p, 4, none⟩ = some (.int .i64 n.c.ways) ∧ w.cell? ⟨r.p, 5, none⟩ = some (.int .i64 n.c.cap) ∧ w.cell? ⟨r.p, 6, none⟩ = some (.int .i64 n.c.wait) ∧ w.cell? ⟨r.p, 7, none⟩ = some (.int .i64 n.c.tries) ∧ w.cell? ⟨r.p, 8, none⟩ = some (.int .i64 n.c.policy) ∧ w.cell? ⟨r.p, 9, none⟩ = some (.int .i64 n.id) ∧ w.cell? ⟨r.p, 10, none⟩ = some (.pointer (some ⟨r.q, 0, none⟩)) ∧ w.cell? ⟨r.p, 11, none⟩ = some (.pointer (some ⟨r.t, 0, none⟩)) ∧ w.cell? ⟨r.p, 12, none⟩ = some (.pointer (some ⟨r.c, 0, none⟩)) ∧ w.cell? ⟨r.p, 13, none⟩ = some (vA) ∧ w.cell? ⟨r.p, 14, none⟩ = some (vT) :=
  ⟨cell_ob h.at_ 0, cell_ob h.at_ 1, cell_ob h.at_ 2, cell_ob h.at_ 3, cell_ob h.at_ 4, cell_ob h.at_ 5, cell_ob h.at_ 6, cell_ob h.at_ 7, cell_ob h.at_ 8, cell_ob h.at_ 9, cell_ob h.at_ 10, cell_ob h.at_ 11, cell_ob h.at_ 12, cell_ob h.at_ 13, cell_ob h.at_ 14⟩
set_option maxHeartbeats 2000000 in
theorem RefHas15_calls {v : Value} {LA : List Int} (b : Int) (h : OwnSl w 3 1 v (ints LA)) : Calls Tryz.prog 56 #[v, .int .i64 b] w fun e w' => e = .returned (.bool (decide (b ∈ LA))) ∧ w' = w := by
  obtain ⟨A, cap, rfl, t1, t2, t3⟩ := sliceInts h.slice
  have H := Lib.hid h
  have HC := Lib.hid t3
  clear h t3
  go_enter Tryz.func56, Tryz.ntmps56
  go_wp2_with fail
  go_loopg [5] LA.length (fun g i wx => ∃ k : Nat, wx = w ∧ k ≤ LA.length ∧ g = LA.length - k ∧ i = .int .i64 k ∧ b ∉ LA.take k)
  case atStart => exact ⟨0, rfl, Nat.zero_le _, rfl, rfl, by simp⟩
  case round =>
    obtain ⟨k, hwx, hk, rfl, rfl, hno⟩ := hrel
    replace hwx := hwx.symm
    subst hwx
    have HNO := Lib.hid hno
    clear hno
    by_cases hlt : k < LA.length
    · obtain ⟨bb, off, rfl, hc⟩ := HC.out (by omega)
      have hx0 := hc k hlt
      obtain ⟨x, hx⟩ : ∃ x, x = LA.getD k 0 := ⟨_, rfl⟩
      rw [← hx] at hx0
      have ht : LA.take (k + 1) = LA.take k ++ [x] := by rw [hx, List.take_succ_eq_append_getElem hlt]; simp [List.getD, hlt]
      have hmem : x ∈ LA := by rw [hx]; simp [List.getD, hlt]
      have HTK := Lib.hid (And.intro ht hmem)
      have lb := World.block_lt_of_cell? w _ hx0
      simp only at lb
      clear ht hx hc hmem
      by_cases q : x = b
      · have q' : (x == b) = true := by simpa using q
        have hd : decide (b ∈ LA) = true := by rw [← q]; simpa using HTK.out.2
        have HDD := Lib.hid hd
        clear q hd
        go_wp2_with fail
        go_ret
        exact ⟨by rw [HDD.out]; rfl, rfl⟩
      · have q' : (x == b) = false := by simpa using q
        have Q := Lib.hid q
        clear q
        go_wp2_with fail
        go_roundg (LA.length - (k + 1))
        case rel => exact ⟨k + 1, rfl, by omega, rfl, by go_num, by rw [HTK.out.1]; simp only [List.mem_append, List.mem_singleton, not_or]; exact ⟨HNO.out, fun e => Q.out e.symm⟩⟩
        case measure => omega
    · have hd : decide (b ∈ LA) = false := by
        have := HNO.out
        rw [List.take_of_length_le (by omega)] at this
        simpa using this
      have HDD := Lib.hid hd
      clear hd
      go_wp2_with fail
      go_ret
      exact ⟨by rw [HDD.out]; rfl, rfl⟩
theorem ask_len (n : Node) (op : Op) (d : Draws) (h : n.c.nodes ≤ 64) : (n.ask op d).length ≤ 65 := by
  unfold Node.ask
  rw [List.length_map]
  exact targets_length _ _ _ h
set_option maxHeartbeats 8000000 in
set_option maxRecDepth 20000 in
theorem RefAsk15_calls (op : Op) (d : Draws) (h : RNodeIn w r n F vA vT oT) :
    Calls Tryz.prog 54 #[.pointer (some ⟨r.p, 0, none⟩), op.val, d.val] w fun e w' => ∃ v, e = .returned v ∧ OwnSl w' 44 11 v ((n.ask op d).map Letter.cells) ∧ (∀ j, v.ownBlock = some j → w.heap.size ≤ j) ∧ Below w.heap.size w w' := by
  have H := Lib.hid h
  obtain ⟨c0, c1, c2, c3, c4, c5, c6, c7, c8, c9, _, _, _, _, _⟩ := h.cOb
  have lp := ob_lt h.at_
  have HS := Lib.hid (show n.ask op d = (targets n.c n.id d).map fun dst => ⟨2, n.id, dst, op.block, 0, 0, op.write, Bundle.none⟩ from rfl)
  have HT := Lib.hid (fun V => RefTargets_calls n.c n.id d V (by have := h.c.nodes; omega) h.c.nodes.2)
  have HL := Lib.hid (targets_length n.c n.id d h.c.nodes.2)
  obtain ⟨T, hT⟩ : ∃ T, T = targets n.c n.id d := ⟨_, rfl⟩
  rw [← hT] at HT HL HS
  obtain ⟨oB, oW, oV⟩ := op
  obtain ⟨d0, d1, d2⟩ := d
  clear h hT
  simp only [Op.val, Op.cells, Draws.val, Draws.cells, Config.val, Config.cells] at HT ⊢
  go_enter Tryz.func54, Tryz.ntmps54
  go_upto_region 2 with fail
  obtain ⟨W, hW⟩ : ∃ W, W = (((w.alloc (Obj.cells #[Value.int IntKind.i64 oB, Value.bool oW, Value.int IntKind.i64 oV] 25)).alloc (Obj.cells #[Value.int IntKind.i64 d0, Value.int IntKind.i64 d1, Value.int IntKind.i64 d2] 38)).alloc (Obj.cells #[] 44)) := ⟨_, rfl⟩
  rw [← hW]
  have bW : Below w.heap.size w W := by rw [hW]; exact Chg.below (by repeat (first | with_reducible exact Chg.refl _ _ | with_reducible exact chg0 | with_reducible refine Chg.drewN ?_ _ | with_reducible refine Chg.drew ?_ | with_reducible refine Chg.alloc ?_ _ | with_reducible refine Chg.setCell ?_ _ _ (by first | (simp; done) | omega | (simp; omega)) | with_reducible refine Chg.setBlock ?_ _ _ (by first | (simp; done) | omega | (simp; omega)) | exact Chg.refl _ _))
  have oW1 : ob W w.heap.size = some (.cells #[Value.int IntKind.i64 oB, Value.bool oW, Value.int IntKind.i64 oV] 25 (0, 0)) := by rw [hW]; simp [go_sem]
  have oW2 : ob W (w.heap.size + 1) = some (.cells #[Value.int IntKind.i64 d0, Value.int IntKind.i64 d1, Value.int IntKind.i64 d2] 38 (0, 0)) := by rw [hW]; simp [go_sem]
  have oW3 : ob W (w.heap.size + 2) = some (.cells #[] 44 (0, 0)) := by rw [hW]; simp [go_sem]
  have sW : W.heap.size = w.heap.size + 3 := by rw [hW]; simp
  have HRW := Lib.hid (H.out.below bW)
  have BW := Lib.hid bW
  have O13 := Lib.hid (And.intro oW1 oW3)
  clear hW c0 c1 c2 c3 c4 c5 c6 c7 c8 c9 lp
  obtain ⟨c0, c1, c2, c3, c4, c5, c6, c7, c8, c9, _, _, _, _, _⟩ := HRW.out.cOb
  have lp := ob_lt HRW.out.at_
  obtain ⟨e0, e1, e2, ef⟩ := ob_cells3 oW2
  have le := ob_lt oW2
  clear bW oW1 oW2 oW3
  go_cut [8] (fun s8 wx => OwnSl wx 3 1 s8 (ints T) ∧ (∀ j, s8.ownBlock = some j → W.heap.size ≤ j) ∧ Below W.heap.size W wx)
  case first =>
    go_still_tail 9, (by kernel_rfl)
    go_wp2_with fail
    refine (HT.out _).mono ?_
    rintro e w3 ⟨v, rfl, ho3, hfr3, hb3⟩
    go_wp2_with fail
    go_meet
    exact ⟨ho3.chg (S := fun _ => False) (by repeat (first | with_reducible exact Chg.refl _ _ | with_reducible exact chg0 | with_reducible refine Chg.drewN ?_ _ | with_reducible refine Chg.drew ?_ | with_reducible refine Chg.alloc ?_ _ | with_reducible refine Chg.setCell ?_ _ _ (by first | (simp; done) | omega | (simp; omega)) | with_reducible refine Chg.setBlock ?_ _ _ (by first | (simp; done) | omega | (simp; omega)) | exact Chg.refl _ _)) (fun _ _ h => h), fun j hj => by have := hfr3 j hj; simpa [go_sem] using this, below_trans (below_trans (Chg.below (by repeat (first | with_reducible exact Chg.refl _ _ | with_reducible exact chg0 | with_reducible refine Chg.drewN ?_ _ | with_reducible refine Chg.drew ?_ | with_reducible refine Chg.alloc ?_ _ | with_reducible refine Chg.setCell ?_ _ _ (by first | (simp; done) | omega | (simp; omega)) | with_reducible refine Chg.setBlock ?_ _ _ (by first | (simp; done) | omega | (simp; omega)) | exact Chg.refl _ _))) hb3) (Chg.below (by repeat (first | with_reducible exact Chg.refl _ _ | with_reducible exact chg0 | with_reducible refine Chg.drewN ?_ _ | with_reducible refine Chg.drew ?_ | with_reducible refine Chg.alloc ?_ _ | with_reducible refine Chg.setCell ?_ _ _ (by first | (simp; done) | omega | (simp; omega)) | with_reducible refine Chg.setBlock ?_ _ _ (by first | (simp; done) | omega | (simp; omega)) | exact Chg.refl _ _)))⟩
  case rest =>
  obtain ⟨hO, hOfr, hOb⟩ := hcut
  obtain ⟨A3, cap3, e3, _⟩ := hO.slice
  rw [ints_length] at e3
  subst e3
  have HU := Lib.hid hO
  have hTl := HL.out
  have HB := Lib.hid (below_trans BW.out hOb)
  have O1 := Lib.hid (ob_step hOb O13.out.1)
  have O3 := Lib.hid (ob_step hOb O13.out.2)
  have HRc := Lib.hid (HRW.out.below hOb)
  clear hO hOfr hOb HT c0 c1 c2 c3 c4 c5 c6 c7 c8 c9 lp e0 e1 e2 ef le O13
  go_wp2_with fail
  go_loopg [7, 9] T.length (fun g s7 i wx => ∃ (wr : World) (k : Nat), wx = wr ∧ k ≤ T.length ∧ g = T.length - k ∧ i = .int .i64 k ∧ OwnSl wr 44 11 s7 (((T.take k).map fun dst => (⟨2, n.id, dst, oB, 0, 0, oW, Bundle.none⟩ : Letter)).map Letter.cells) ∧ (∀ j, s7.ownBlock = some j → w.heap.size + 2 ≤ j) ∧
    OwnSl wr 3 1 (.slice A3 T.length cap3) (ints T) ∧ RNodeIn wr r n F vA vT oT ∧ ob wr w.heap.size = some (.cells #[Value.int IntKind.i64 oB, Value.bool oW, Value.int IntKind.i64 oV] 25 (0, 0)) ∧ Below w.heap.size w wr)
  case atStart => exact ⟨_, 0, rfl, Nat.zero_le _, rfl, rfl, OwnSl.made (e := 44) (rows := []) O3.out RowsOk.nil rfl (by decide), fun j hj => by simp [Value.ownBlock] at hj; omega, HU.out, HRc.out, O1.out, HB.out⟩
  case round =>
    obtain ⟨wr, k, hwx, hk, rfl, rfl, hv, hlo, hU, hR, h0, hbr⟩ := hrel
    replace hwx := hwx.symm
    subst hwx
    clear HU HRc O1 HB O3
    have HV := Lib.hid hv
    have HLO := Lib.hid hlo
    have HU := Lib.hid hU
    have HR := Lib.hid hR
    have H0 := Lib.hid h0
    have HB := Lib.hid hbr
    clear hv hlo hR hbr
    by_cases hlt : k < T.length
    · obtain ⟨A', cap', e', t1, t2, t3⟩ := sliceInts hU.slice
      cases e'
      obtain ⟨bb, off, rfl, hc⟩ := t3 (by omega)
      have hx0 := hc k hlt
      obtain ⟨x, hx⟩ : ∃ x, x = T.getD k 0 := ⟨_, rfl⟩
      rw [← hx] at hx0
      have ht : T.take (k + 1) = T.take k ++ [x] := by rw [hx, List.take_succ_eq_append_getElem hlt]; simp [List.getD, hlt]
      have HTK := Lib.hid ht
      have lb := World.block_lt_of_cell? wr _ hx0
      simp only at lb
      obtain ⟨_, _, _, _, _, _, _, _, _, c9, _, _, _, _, _⟩ := HR.out.cOb
      have lp := ob_lt HR.out.at_
      obtain ⟨x0, x1, x2, xf⟩ := ob_cells3 h0
      have lx := ob_lt h0
      have htl : (T.take k).length ≤ 65 := by rw [List.length_take]; omega
      clear ht hx hc t1 t2 t3 hU h0
      go_upto_region 6 with fail
      go_region_law (refine step_append_sl (v := u7) (xs := ((T.take k).map fun dst => (⟨2, n.id, dst, oB, 0, 0, oW, Bundle.none⟩ : Letter)).map Letter.cells) (ys := [(⟨2, n.id, x, oB, 0, 0, oW, Bundle.none⟩ : Letter).cells]) rfl _ _ rfl tyLetters rfl rfl (HV.out.chg (S := fun _ => False) (by repeat (first | with_reducible exact Chg.refl _ _ | with_reducible exact chg0 | with_reducible refine Chg.drewN ?_ _ | with_reducible refine Chg.drew ?_ | with_reducible refine Chg.alloc ?_ _ | with_reducible refine Chg.setCell ?_ _ _ (by first | (simp; done) | omega | (simp; omega)) | with_reducible refine Chg.setBlock ?_ _ _ (by first | (simp; done) | omega | (simp; omega)) | exact Chg.refl _ _)) (fun _ _ h => h)) (OwnSl.made (e := 44) (b := wr.heap.size) (by first | exact ob_last _ _ _ | exact ob_last1 _ _ | exact ob_last2 _ _ | exact ob_last3 _ _ _ | exact ob_last4 _ _ | exact ob_last5 _ _ _ _ | exact ob_alloc_at _ _) (letters_ok [⟨2, n.id, x, oB, 0, 0, oW, Bundle.none⟩]) rfl (by simp)).slice (letters_ok [⟨2, n.id, x, oB, 0, 0, oW, Bundle.none⟩]) (by simp only [List.length_map, List.length_singleton]; omega) ?_; intro v5 w5 ho hc5 hloc; have hcc : Chg (fun j => u7.ownBlock = some j) wr w5 := Chg.trans (S' := fun j => u7.ownBlock = some j) (by repeat (first | with_reducible exact Chg.refl _ _ | with_reducible exact chg0 | with_reducible refine Chg.drewN ?_ _ | with_reducible refine Chg.drew ?_ | with_reducible refine Chg.alloc ?_ _ | with_reducible refine Chg.setCell ?_ _ _ (by first | (simp; done) | omega | (simp; omega)) | with_reducible refine Chg.setBlock ?_ _ _ (by first | (simp; done) | omega | (simp; omega)) | exact Chg.refl _ _)) hc5 (fun _ _ h => h))
      all_goals (go_wp2_with fail)
      all_goals
        have hty : ∀ j, u7.ownBlock = some j → ∃ c, ob wr j = some (.cells c 44 (0, 0)) := fun j hj => HV.out.typed hj
        have hUn : ∀ j, (Value.slice (some ⟨bb, off, none⟩) T.length cap3).ownBlock = some j → ¬ u7.ownBlock = some j := fun j hj e => by
          obtain ⟨c1, hc1⟩ := HU.out.typed hj
          obtain ⟨c2, hc2⟩ := hty j e
          rw [hc1] at hc2
          cases hc2
        have hRn : ∀ j, (rFp r F j ∨ vA.ownBlock = some j) → ¬ u7.ownBlock = some j := fun j hj e => by
          have h1 := H.out.lt j hj
          have h2 := HLO.out j e
          omega
        go_roundg (T.length - (k + 1))
      all_goals first | (omega; done) | skip
      all_goals
        refine ⟨_, k + 1, rfl, by omega, rfl, by go_num, ?_, ?_, (HU.out.chg hcc hUn), HR.out.chg hcc hRn, hcc.ob H0.out (fun e => by have := HLO.out _ e; omega), below_chg HB.out hcc (fun j hj e => by have := HLO.out _ e; omega)⟩
        · rw [HTK.out, List.map_append, List.map_append]
          exact ho
        · intro j hj
          rcases hloc with h | h
          · rw [h] at hj; exact HLO.out j hj
          · rw [h] at hj; injection hj with hj; have := HB.out.size; rw [← hj]; simp; omega
    · have hfin : T.take k = T := List.take_of_length_le (by omega)
      go_wp2_with fail
      go_ret
      rw [HS.out]
      rw [hfin] at HV
      exact ⟨_, rfl, HV.out.chg (S := fun _ => False) (by repeat (first | with_reducible exact Chg.refl _ _ | with_reducible exact chg0 | with_reducible refine Chg.drewN ?_ _ | with_reducible refine Chg.drew ?_ | with_reducible refine Chg.alloc ?_ _ | with_reducible refine Chg.setCell ?_ _ _ (by first | (simp; done) | omega | (simp; omega)) | with_reducible refine Chg.setBlock ?_ _ _ (by first | (simp; done) | omega | (simp; omega)) | exact Chg.refl _ _)) (fun _ _ h => h), fun j hj => by have := HLO.out j hj; omega, below_trans HB.out (Chg.below (by repeat (first | with_reducible exact Chg.refl _ _ | with_reducible exact chg0 | with_reducible refine Chg.drewN ?_ _ | with_reducible refine Chg.drew ?_ | with_reducible refine Chg.alloc ?_ _ | with_reducible refine Chg.setCell ?_ _ _ (by first | (simp; done) | omega | (simp; omega)) | with_reducible refine Chg.setBlock ?_ _ _ (by first | (simp; done) | omega | (simp; omega)) | exact Chg.refl _ _)))⟩
end
end Go.Proofs.YtchlioikkhnidaaGreat
