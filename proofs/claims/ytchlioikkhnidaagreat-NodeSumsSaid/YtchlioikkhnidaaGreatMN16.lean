/-
  Slices from somewhere on. No program is named.
-/
import Derived.Test.YtchlioikkhnidaaGreatMA
import Derived.Test.YtchlioikkhnidaaGreatMN15
set_option linter.unusedVariables false
set_option linter.unusedSimpArgs false
namespace Go.Proofs.YtchlioikkhnidaaGreat
open Go.RowKit Go.MapKept
open Go.ChangeMaps (setBlock)
set_option linter.unusedVariables false
set_option linter.unusedSimpArgs false
def fromA (A : Option Addr) (cap m sz : Nat) : Option Addr := if cap = m then A else A.map fun x => x.add (m * sz)
section
variable {P : Program} {w : World}
theorem run_slice_from {t e : TypeId} {sz : Nat} (ht : P.underlying t = some (.slice e)) (hs : ∃ i, P.info? e = some i ∧ i.size = sz) (A : Option Addr) (len cap m : Nat) (hm : m ≤ len) (hc : len ≤ cap) :
    (Instr.sliceAt t (.slice A len cap) (some (.int .i64 m)) none none).run P w = .ok (.slice (fromA A cap m sz) (len - m) (cap - m)) w := by
  obtain ⟨i, hi, hz⟩ := hs
  have hm' : (0 : Int) ≤ (m : Int) ∧ (m : Int) ≤ (len : Int) := ⟨by omega, by omega⟩
  simp [Instr.sliceAt, Instr.slice, run_underlying ht, Instr.sliceBounds, Instr.sliceBound, asIntOf, hm', sizeOf, typeInfo, hi, hz, fromA, hm]
theorem wpList_slice_from {ops : Array Oper} {rest : List Oper} {o : Oper} {a : Act} {Q : Exit → Act → World → Prop} (hgd : o.guard = none) (t e : TypeId) (x n : Operand) (sz : Nat)
    (ho : o.op = .slice t x (some n) none none) (ht : P.underlying t = some (.slice e)) (hs : ∃ i, P.info? e = some i ∧ i.size = sz) (A : Option Addr) (len cap m : Nat) (hx : a.eval x = .slice A len cap) (hn : a.eval n = .int .i64 m) (hm : m ≤ len) (hc : len ≤ cap)
    (h : wpList P ops Q rest (a.put o.dst (.slice (fromA A cap m sz) (len - m) (cap - m))) w) : wpList P ops Q (o :: rest) a w := by
  refine wpList_plain hgd fun K hK => ?_
  unfold Oper.wp execOp
  simp only [ho, hx, hn, Option.map_some, Option.map_none, Sem.run_bind, run_slice_from ht hs A len cap m hm hc, Result.andThen_ok, Sem.run_pure]
  exact hK _ _ h
end
theorem SliceIs.from {w : World} {sz m len cap : Nat} {A : Option Addr} {rows : List (List Value)} (h : SliceIs w sz (.slice A len cap) rows) (hm : m ≤ len) : SliceIs w sz (.slice (fromA A cap m sz) (len - m) (cap - m)) (rows.drop m) := by
  obtain ⟨A', cap', he, h1, h2, h3⟩ := h
  simp only [Value.slice.injEq] at he
  obtain ⟨rfl, rfl, rfl⟩ := he
  refine ⟨_, _, by rw [List.length_drop], by rw [List.length_drop]; omega, by rw [List.length_drop]; omega, fun h0 => ?_⟩
  rw [List.length_drop] at h0
  obtain ⟨b, off, rfl, hr⟩ := h3 (by omega)
  refine ⟨b, off + m * sz, ?_, fun i r hi => ?_⟩
  · simp only [fromA, Option.map_some]
    rw [if_neg (by omega)]
    simp [Addr.add]
  · rw [List.getElem?_drop] at hi
    have := hr (m + i) r hi
    rw [Nat.add_mul, ← Nat.add_assoc] at this
    exact this
end Go.Proofs.YtchlioikkhnidaaGreat

/-
  What happens to a node, as one call.
-/
namespace Go.Proofs.YtchlioikkhnidaaGreat
open Go.RowKit Go.Sort Go.ChangeShapes Go.WideShapes Go.ChangeAt
open Go.ChangeMaps (setBlock)
set_option linter.unusedVariables false
set_option linter.unusedSimpArgs false
theorem act15_one (d : Act15) : d.cells.toArray.all (·.oneCell') = true := all_oneCell_toArray (by intro v hv; simp only [Act15.cells, List.mem_cons, List.not_mem_nil, or_false] at hv; rcases hv with rfl | rfl | rfl | rfl | rfl | rfl | rfl | rfl | rfl | rfl | rfl | rfl | rfl | rfl | rfl | rfl | rfl | rfl <;> rfl)
theorem letter_one (x : Letter) : x.cells.toArray.all (·.oneCell') = true := all_oneCell_toArray (by intro v hv; simp only [Letter.cells, List.mem_cons, List.not_mem_nil, or_false] at hv; rcases hv with rfl | rfl | rfl | rfl | rfl | rfl | rfl | rfl | rfl | rfl | rfl <;> rfl)
section
variable {w w' w'' w0 V W : World} {a : NAddr} {n n' : Node} {F F' FC FC' : Nat → Prop} {v1 v2 : Value} {L : List Letter} {D : List Done} {K : Nat}
theorem Sent.early (h : Sent V W a n FC FC' v1 v2 L D) (hb : Below w.heap.size w V) : Sent w W a n FC FC' v1 v2 L D :=
  ⟨h.node, h.letters, h.done, (Moves.none (Chg.of_below hb)).trans h.moves, fun j hj => ⟨(h.apart1 j hj).1, (h.apart1 j hj).2.imp id (Nat.le_trans hb.size)⟩, fun j hj => ⟨(h.apart2 j hj).1, (h.apart2 j hj).2.imp id (Nat.le_trans hb.size)⟩, h.apart⟩
/-- Stored into a block of another type. -/
theorem Sent.at {c : Array Value} {t : TypeId} (h : Sent w W a n FC FC' v1 v2 L D) (hk : ob W K = some (.cells c t (0, 0))) (h1 : t ≠ 44) (h2 : t ≠ 60) (hl : w.heap.size ≤ K) (hn : ¬ nFp a FC' K) (hc : Chg (fun j => j = K) W w') : Sent w w' a n FC FC' v1 v2 L D :=
  h.put hc fun j hj => ⟨by omega, fun hq => by
    subst hj
    rcases hq with hq | hq | hq
    · exact hn hq
    · obtain ⟨c', hc'⟩ := h.letters.typed hq
      rw [hk] at hc'
      cases hc'
      exact h1 rfl
    · obtain ⟨c', hc'⟩ := h.done.typed hq
      rw [hk] at hc'
      cases hc'
      exact h2 rfl⟩
set_option maxHeartbeats 8000000 in
set_option maxRecDepth 20000 in
theorem do_calls (d : Act15) (h : NodeIn w a n F) (hb : n.cpu.number < 1000000000 ∧ ∀ b, (n.cache.tok b).count ≤ 900000000000) :
    Calls Tryz.prog 28 #[.pointer (some ⟨a.p, 0, none⟩), d.val] w fun e w' =>
      ∃ F' v1 v2, e = .returned (.agg #[v1, v2]) ∧ Sent w w' a (n.step d).1 F F' v1 v2 (n.step d).2.1 (n.step d).2.2 := by
  have H := Lib.hid h
  have HLT := Lib.hid h.lt
  have HB := Lib.hid hb
  obtain ⟨n', L, D, hst⟩ : ∃ n' L D, (n', L, D) = n.step d := ⟨_, _, _, rfl⟩
  rw [← hst]
  have HST := Lib.hid hst
  clear hst h hb
  have hA := ob_alloc_at w (.cells d.cells.toArray 46)
  simp only [Act15.val] at *
  generalize hcs : d.cells = CS
  go_enter Tryz.func28, Tryz.ntmps28
  subst hcs
  go_upto_region 1 with fail
  have hV : NodeIn ((w.alloc (.cells d.cells.toArray 46)).alloc (.cells #[.slice none 0 0, .slice none 0 0] 35)) a n F := H.out.below (Chg.below (by repeat (first | with_reducible exact Chg.refl _ _ | with_reducible exact chg0 | with_reducible refine Chg.drewN ?_ _ | with_reducible refine Chg.drew ?_ | with_reducible refine Chg.alloc ?_ _ | with_reducible refine Chg.setCell ?_ _ _ (by first | (simp; done) | omega | (simp; omega)) | with_reducible refine Chg.setBlock ?_ _ _ (by first | (simp; done) | omega | (simp; omega)) | exact Chg.refl _ _)))
  have oA : ob ((w.alloc (.cells d.cells.toArray 46)).alloc (.cells #[.slice none 0 0, .slice none 0 0] 35)) w.heap.size = some (actO d) := ob_step (Chg.below (by repeat (first | with_reducible exact Chg.refl _ _ | with_reducible exact chg0 | with_reducible refine Chg.drewN ?_ _ | with_reducible refine Chg.drew ?_ | with_reducible refine Chg.alloc ?_ _ | with_reducible refine Chg.setCell ?_ _ _ (by first | (simp; done) | omega | (simp; omega)) | with_reducible refine Chg.setBlock ?_ _ _ (by first | (simp; done) | omega | (simp; omega)) | exact Chg.refl _ _))) hA
  have oO : ob ((w.alloc (.cells d.cells.toArray 46)).alloc (.cells #[.slice none 0 0, .slice none 0 0] 35)) (w.heap.size + 1) = some (outO (.slice none 0 0) (.slice none 0 0)) := by simp [go_sem, outO]
  have bV : Below w.heap.size w ((w.alloc (.cells d.cells.toArray 46)).alloc (.cells #[.slice none 0 0, .slice none 0 0] 35)) := Chg.below (by repeat (first | with_reducible exact Chg.refl _ _ | with_reducible exact chg0 | with_reducible refine Chg.drewN ?_ _ | with_reducible refine Chg.drew ?_ | with_reducible refine Chg.alloc ?_ _ | with_reducible refine Chg.setCell ?_ _ _ (by first | (simp; done) | omega | (simp; omega)) | with_reducible refine Chg.setBlock ?_ _ _ (by first | (simp; done) | omega | (simp; omega)) | exact Chg.refl _ _))
  have sV : ((w.alloc (.cells d.cells.toArray 46)).alloc (.cells #[.slice none 0 0, .slice none 0 0] 35)).heap.size = w.heap.size + 2 := by simp
  have NF := Lib.hid (show ¬ nFp a F (w.heap.size + 1) from fun hf => by have := HLT.out _ hf; omega)
  generalize hVe : ((w.alloc (.cells d.cells.toArray 46)).alloc (.cells #[.slice none 0 0, .slice none 0 0] 35)) = V at hV oA oO bV sV
  have HV := Lib.hid hV
  have OO := Lib.hid oO
  have BV := Lib.hid bV
  have SZ := Lib.hid sV
  clear hA hV oO bV sV hVe
  obtain ⟨rOp, rLt, rDr, x0⟩ := actO_range oA
  have lA := ob_lt oA
  clear oA
  by_cases q1 : d.kind = 1
  · have q1' : (d.kind == 1) = true := by simpa using q1
    have hHT := fun (V : World) (hV : NodeIn V a n F) => NodeIssue_calls d.op d.draws hV HB.out.1
    have hst := HST.out
    unfold Node.step at hst
    rw [if_pos q1] at hst
    obtain ⟨⟨m1, m2, m3, m4⟩, hm⟩ : ∃ m, m = n.issue d.op d.draws := ⟨_, rfl⟩
    simp only [← hm] at hst hHT
    obtain ⟨rfl, rfl, rfl⟩ : n' = m1 ∧ L = m2 ∧ D = m3 := by simpa using hst
    have HHT := Lib.hid hHT
    clear hst hHT hm q1
    generalize d.op = op at rOp HHT
    generalize d.draws = dr at rDr HHT
    go_wp2_with (first | (refine wpList_load_row rfl 25 _ rfl w.heap.size 1 rfl op.cells rOp (by kernel_rfl) (by kernel_rfl) ?_) | (refine wpList_load_row rfl 38 _ rfl w.heap.size 15 rfl dr.cells rDr (by kernel_rfl) (by kernel_rfl) ?_))
    refine (HHT.out _ HV.out).mono ?_
    rintro e w4 ⟨FC4, u1, u2, rfl, hs4⟩
    obtain ⟨B1, i1, s1, e1⟩ := hs4.letters.shape
    obtain ⟨B2, i2, s2, e2⟩ := hs4.done.shape
    subst e1
    subst e2
    have HS4 := Lib.hid (hs4.early BV.out)
    obtain ⟨k4, m4⟩ := hs4.moves.aside OO.out NF.out
    have HK4 := Lib.hid k4
    have HM4 := Lib.hid m4
    obtain ⟨z0, z1, zf, lz⟩ := outO_cells k4
    have hbg : w.heap.size + 2 ≤ w4.heap.size := by have := hs4.moves.chg.size; rw [SZ.out] at this; exact this
    clear hs4 k4 m4
    go_wp2_with fail
    refine bodyRet1 _ rfl rfl (ResIs.row Tryz.underlying35 rfl (by kernel_rfl) rfl (by have ho := HK4.out; simp only [outO] at ho; first | (simp [go_sem, ho, lz, setAt]; done) | (simp [go_sem, ho, lz, setAt]; exact ⟨rfl, rfl, rfl⟩))) ?_
    exact ⟨FC4, _, _, rfl, HS4.out.at HK4.out (by decide) (by decide) (by omega) HM4.out (by repeat (first | with_reducible exact Chg.refl _ _ | with_reducible exact chg0 | with_reducible refine Chg.drewN ?_ _ | with_reducible refine Chg.drew ?_ | with_reducible refine Chg.alloc ?_ _ | with_reducible refine Chg.setCell ?_ _ _ (by first | (simp; done) | omega | (simp; omega)) | with_reducible refine Chg.setBlock ?_ _ _ (by first | (simp; done) | omega | (simp; omega)) | exact Chg.refl _ _))⟩
  have q1' : (d.kind == 1) = false := by simpa using q1
  by_cases q2 : d.kind = 2
  · have q2' : (d.kind == 2) = true := by simpa using q2
    have hHT := fun (V : World) (hV : NodeIn V a n F) => NodeTake_calls d.letter d.draws hV HB.out.2
    have hst := HST.out
    unfold Node.step at hst
    rw [if_neg q1, if_pos q2] at hst
    obtain ⟨⟨m1, m2, m3⟩, hm⟩ : ∃ m, m = n.take d.letter d.draws := ⟨_, rfl⟩
    simp only [← hm] at hst hHT
    obtain ⟨rfl, rfl, rfl⟩ : n' = m1 ∧ L = m2 ∧ D = m3 := by simpa using hst
    have HHT := Lib.hid hHT
    clear hst hHT hm q1 q2
    generalize d.letter = lt at rLt HHT
    generalize d.draws = dr at rDr HHT
    go_wp2_with (first | (refine wpList_load_row rfl 44 _ rfl w.heap.size 4 rfl lt.cells rLt (by kernel_rfl) (by kernel_rfl) ?_) | (refine wpList_load_row rfl 38 _ rfl w.heap.size 15 rfl dr.cells rDr (by kernel_rfl) (by kernel_rfl) ?_))
    refine (HHT.out _ HV.out).mono ?_
    rintro e w4 ⟨FC4, u1, u2, rfl, hs4⟩
    obtain ⟨B1, i1, s1, e1⟩ := hs4.letters.shape
    obtain ⟨B2, i2, s2, e2⟩ := hs4.done.shape
    subst e1
    subst e2
    have HS4 := Lib.hid (hs4.early BV.out)
    obtain ⟨k4, m4⟩ := hs4.moves.aside OO.out NF.out
    have HK4 := Lib.hid k4
    have HM4 := Lib.hid m4
    obtain ⟨z0, z1, zf, lz⟩ := outO_cells k4
    have hbg : w.heap.size + 2 ≤ w4.heap.size := by have := hs4.moves.chg.size; rw [SZ.out] at this; exact this
    clear hs4 k4 m4
    go_wp2_with fail
    refine bodyRet1 _ rfl rfl (ResIs.row Tryz.underlying35 rfl (by kernel_rfl) rfl (by have ho := HK4.out; simp only [outO] at ho; first | (simp [go_sem, ho, lz, setAt]; done) | (simp [go_sem, ho, lz, setAt]; exact ⟨rfl, rfl, rfl⟩))) ?_
    exact ⟨FC4, _, _, rfl, HS4.out.at HK4.out (by decide) (by decide) (by omega) HM4.out (by repeat (first | with_reducible exact Chg.refl _ _ | with_reducible exact chg0 | with_reducible refine Chg.drewN ?_ _ | with_reducible refine Chg.drew ?_ | with_reducible refine Chg.alloc ?_ _ | with_reducible refine Chg.setCell ?_ _ _ (by first | (simp; done) | omega | (simp; omega)) | with_reducible refine Chg.setBlock ?_ _ _ (by first | (simp; done) | omega | (simp; omega)) | exact Chg.refl _ _))⟩
  have q2' : (d.kind == 2) = false := by simpa using q2
  by_cases q3 : d.kind = 3
  · have q3' : (d.kind == 3) = true := by simpa using q3
    have hHT := fun (V : World) (hV : NodeIn V a n F) => NodeTick_calls d.draws hV
    have hst := HST.out
    unfold Node.step at hst
    rw [if_neg q1, if_neg q2, if_pos q3] at hst
    obtain ⟨⟨m1, m2⟩, hm⟩ : ∃ m, m = n.tick d.draws := ⟨_, rfl⟩
    simp only [← hm] at hst hHT
    obtain ⟨rfl, rfl, rfl⟩ : n' = m1 ∧ L = m2 ∧ D = [] := by simpa using hst
    have HHT := Lib.hid hHT
    clear hst hHT hm q1 q2 q3
    generalize d.draws = dr at rDr HHT
    go_wp2_with (first | (refine wpList_load_row rfl 38 _ rfl w.heap.size 15 rfl dr.cells rDr (by kernel_rfl) (by kernel_rfl) ?_))
    refine (HHT.out _ HV.out).mono ?_
    rintro e w4 ⟨FC4, u1, u2, rfl, hs4⟩
    obtain ⟨B1, i1, s1, e1⟩ := hs4.letters.shape
    obtain ⟨B2, i2, s2, e2⟩ := hs4.done.shape
    subst e1
    subst e2
    have HS4 := Lib.hid (hs4.early BV.out)
    obtain ⟨k4, m4⟩ := hs4.moves.aside OO.out NF.out
    have HK4 := Lib.hid k4
    have HM4 := Lib.hid m4
    obtain ⟨z0, z1, zf, lz⟩ := outO_cells k4
    have hbg : w.heap.size + 2 ≤ w4.heap.size := by have := hs4.moves.chg.size; rw [SZ.out] at this; exact this
    clear hs4 k4 m4
    go_wp2_with fail
    refine bodyRet1 _ rfl rfl (ResIs.row Tryz.underlying35 rfl (by kernel_rfl) rfl (by have ho := HK4.out; simp only [outO] at ho; first | (simp [go_sem, ho, lz, setAt]; done) | (simp [go_sem, ho, lz, setAt]; exact ⟨rfl, rfl, rfl⟩))) ?_
    exact ⟨FC4, _, _, rfl, HS4.out.at HK4.out (by decide) (by decide) (by omega) HM4.out (by repeat (first | with_reducible exact Chg.refl _ _ | with_reducible exact chg0 | with_reducible refine Chg.drewN ?_ _ | with_reducible refine Chg.drew ?_ | with_reducible refine Chg.alloc ?_ _ | with_reducible refine Chg.setCell ?_ _ _ (by first | (simp; done) | omega | (simp; omega)) | with_reducible refine Chg.setBlock ?_ _ _ (by first | (simp; done) | omega | (simp; omega)) | exact Chg.refl _ _))⟩
  have q3' : (d.kind == 3) = false := by simpa using q3
  have hst := HST.out
  unfold Node.step at hst
  rw [if_neg q1, if_neg q2, if_neg q3] at hst
  obtain ⟨rfl, rfl, rfl⟩ : n' = n ∧ L = [] ∧ D = [] := by simpa using hst
  clear hst q1 q2 q3
  obtain ⟨z0, z1, zf, lz⟩ := outO_cells OO.out
  go_wp2_with fail
  refine bodyRet1 _ rfl rfl (ResIs.row Tryz.underlying35 rfl (by kernel_rfl) rfl (by have ho := OO.out; simp only [outO] at ho; first | (simp [go_sem, ho, lz, setAt]; done) | (simp [go_sem, ho, lz, setAt]; exact ⟨rfl, rfl, rfl⟩))) ?_
  exact ⟨F, _, _, rfl, (Sent.none HV.out (Chg.refl _ _)).early BV.out |>.at OO.out (by decide) (by decide) (by omega) NF.out (by repeat (first | with_reducible exact Chg.refl _ _ | with_reducible exact chg0 | with_reducible refine Chg.drewN ?_ _ | with_reducible refine Chg.drew ?_ | with_reducible refine Chg.alloc ?_ _ | with_reducible refine Chg.setCell ?_ _ _ (by first | (simp; done) | omega | (simp; omega)) | with_reducible refine Chg.setBlock ?_ _ _ (by first | (simp; done) | omega | (simp; omega)) | exact Chg.refl _ _))⟩
end
end Go.Proofs.YtchlioikkhnidaaGreat

/-
  Two nodes side by side, and what was sent and done kept in a list.
-/
namespace Go.Proofs.YtchlioikkhnidaaGreat
open Go.RowKit Go.Sort Go.ChangeShapes Go.WideShapes Go.ChangeAt
open Go.ChangeMaps (setBlock)
set_option linter.unusedVariables false
set_option linter.unusedSimpArgs false
def stepAll (n : Node) : List Act15 → Node
  | [] => n
  | a :: l => stepAll (n.step a).1 l
theorem stepAll_snoc (a : Act15) : ∀ (n : Node) (l : List Act15), stepAll n (l ++ [a]) = ((stepAll n l).step a).1
  | n, [] => rfl
  | n, b :: l => stepAll_snoc a (n.step b).1 l
structure Both (w wr : World) (a : NAddr) (n : Node) (F : Nat → Prop) (a' : NAddr) (n' : Node) (F' : Nat → Prop) : Prop where
  one : Nd0 w wr a n F
  two : Nd0 w wr a' n' F'
  apart : ∀ j, nFp a F j → ¬ nFp a' F' j
structure Outs (w0 wr : World) (bad : Nat → Prop) (vs : Nat → Value × Value) (O : Nat → List Letter × List Done) (m : Nat) : Prop where
  at_ : ∀ j, j < m → Own0 w0 wr 44 11 (vs j).1 ((O j).1.map Letter.cells) ∧ Own0 w0 wr 60 7 (vs j).2 ((O j).2.map Done.cells)
  apart : ∀ j, j < m → ∀ b, ((vs j).1.ownBlock = some b ∨ (vs j).2.ownBlock = some b) → ¬ bad b
section
variable {w wr wx w0 : World} {a a' : NAddr} {n n' m : Node} {F F' FF : Nat → Prop} {v1 v2 : Value} {L : List Letter} {D : List Done} {bad bad' S : Nat → Prop} {vs : Nat → Value × Value} {O : Nat → List Letter × List Done} {k : Nat}
theorem Both.same (h : Both w wr a n F a' n' F') (hb : Below wr.heap.size wr wx) : Both w wx a n F a' n' F' := ⟨h.one.same hb, h.two.same hb, h.apart⟩
theorem Both.swap (h : Both w wr a n F a' n' F') : Both w wr a' n' F' a n F := ⟨h.two, h.one, fun j h1 h2 => h.apart j h2 h1⟩
theorem Both.left (h : Both w wr a n F a' n' F') (hs : Sent wr wx a m F FF v1 v2 L D) : Both w wx a m FF a' n' F' :=
  ⟨h.one.sent hs, ⟨h.two.here.chg hs.moves.chg (fun j hj hS => h.apart j hS hj), h.two.low, (h.one.sent hs).below⟩, fun j hj hj' => (hs.moves.fresh j hj).elim (fun hf => h.apart j hf hj') (fun hl => by have := h.two.here.lt j hj'; omega)⟩
theorem Both.right (h : Both w wr a n F a' n' F') (hs : Sent wr wx a' m F' FF v1 v2 L D) : Both w wx a n F a' m FF := (h.swap.left hs).swap
theorem Outs.chg (h : Outs w0 wr bad vs O k) (hc : Chg S wr wx) (hS : ∀ j, S j → bad j) : Outs w0 wx bad vs O k :=
  ⟨fun j hj => ⟨⟨(h.at_ j hj).1.1.chg hc (fun b hb hs => h.apart j hj b (.inl hb) (hS b hs)), (h.at_ j hj).1.2⟩, ⟨(h.at_ j hj).2.1.chg hc (fun b hb hs => h.apart j hj b (.inr hb) (hS b hs)), (h.at_ j hj).2.2⟩⟩, h.apart⟩
theorem Outs.same (h : Outs w0 wr bad vs O k) (hb : Below wr.heap.size wr wx) : Outs w0 wx bad vs O k := h.chg (S := fun _ => False) (Chg.of_below hb) fun _ h => h.elim
theorem Outs.worse (h : Outs w0 wr bad vs O k) (hb : ∀ j, bad' j → bad j ∨ wr.heap.size ≤ j) : Outs w0 wr bad' vs O k :=
  ⟨h.at_, fun j hj b hv hbd => (hb b hbd).elim (h.apart j hj b hv) (fun hl => by
    rcases hv with hv | hv
    · have := (h.at_ j hj).1.1.lt hv; omega
    · have := (h.at_ j hj).2.1.lt hv; omega)⟩
theorem Outs.typed (h : Outs w0 wr bad vs O k) (hc : Chg S wr wx) (hS : ∀ j, S j → ∃ c, ob wr j = some (.cells c 35 (0, 0))) : Outs w0 wx bad vs O k :=
  ⟨fun j hj => ⟨(h.at_ j hj).1.atS hc hS (by decide), (h.at_ j hj).2.atS hc hS (by decide)⟩, h.apart⟩
theorem Outs.add (h : Outs w0 wr bad vs O k) (h1 : Own0 w0 wr 44 11 v1 ((O k).1.map Letter.cells)) (h2 : Own0 w0 wr 60 7 v2 ((O k).2.map Done.cells)) (hb : ∀ b, (v1.ownBlock = some b ∨ v2.ownBlock = some b) → ¬ bad b) :
    Outs w0 wr bad (fun j => if j = k then (v1, v2) else vs j) O (k + 1) :=
  ⟨fun j hj => by
    by_cases e : j = k
    · subst e; simp only [if_true]; exact ⟨h1, h2⟩
    · simp only [if_neg e]; exact h.at_ j (by omega), fun j hj b hv => by
    by_cases e : j = k
    · simp only [if_pos e] at hv; exact hb b hv
    · simp only [if_neg e] at hv; exact h.apart j (by omega) b hv⟩
def outRows (vs : Nat → Value × Value) (m : Nat) : List (List Value) := (List.range m).map fun j => [(vs j).1, (vs j).2]
theorem outRows_length (vs : Nat → Value × Value) (m : Nat) : (outRows vs m).length = m := by simp [outRows]
theorem outRows_snoc (vs : Nat → Value × Value) (m : Nat) (v : Value × Value) : outRows vs m ++ [[v.1, v.2]] = outRows (fun j => if j = m then v else vs j) (m + 1) := by
  unfold outRows
  rw [List.range_succ, List.map_append]
  congr 1
  · apply List.map_congr_left
    intro j hj
    rw [List.mem_range] at hj
    have hne : ¬ j = m := by omega
    simp only [if_neg hne]
  · simp
theorem tyOuts : SlTy Tryz.prog 79 35 2 48 (.agg #[.slice none 0 0, .slice none 0 0]) := ⟨Tryz.underlying79, by kernel_rfl, rfl, by decide, by decide⟩
def bad2 (a : NAddr) (F : Nat → Prop) (a' : NAddr) (F' : Nat → Prop) : Nat → Prop := fun j => nFp a F j ∨ nFp a' F' j
theorem Both.chg (h : Both w wr a n F a' n' F') (hc : Chg S wr wx) (hS : ∀ j, S j → ¬ bad2 a F a' F' j ∧ w.heap.size ≤ j) : Both w wx a n F a' n' F' :=
  have hb : Below w.heap.size w wx := below_chg h.one.below hc fun j hj hs => by have := (hS j hs).2; omega
  ⟨⟨h.one.here.chg hc fun j hj hs => (hS j hs).1 (.inl hj), h.one.low, hb⟩, ⟨h.two.here.chg hc fun j hj hs => (hS j hs).1 (.inr hj), h.two.low, hb⟩, h.apart⟩
structure CopyW (w wr : World) (a : NAddr) (n : Node) (F : Nat → Prop) (a' : NAddr) (n' : Node) (F' : Nat → Prop) (vo : Value) (vs : Nat → Value × Value) (O : Nat → List Letter × List Done) (k : Nat) : Prop where
  both : Both w wr a n F a' n' F'
  own : OwnSl wr 35 2 vo (outRows vs k)
  low : ∀ b, vo.ownBlock = some b → w.heap.size ≤ b
  apart : ∀ b, vo.ownBlock = some b → ¬ bad2 a F a' F' b
  outs : Outs w wr (bad2 a F a' F') vs O k
variable {vo vo' : Value}
theorem CopyW.start (h : Both w wr a n F a' n' F') : CopyW w wr a n F a' n' F' (.slice none 0 0) (fun _ => (.slice none 0 0, .slice none 0 0)) O 0 :=
  ⟨h, OwnSl.nil, fun b hb => (by cases hb), fun b hb => (by cases hb), ⟨fun j hj => absurd hj (Nat.not_lt_zero _), fun j hj => absurd hj (Nat.not_lt_zero _)⟩⟩
theorem CopyW.swap (h : CopyW w wr a n F a' n' F' vo vs O k) : CopyW w wr a' n' F' a n F vo vs O k :=
  ⟨h.both.swap, h.own, h.low, fun b hb hq => h.apart b hb hq.symm, ⟨h.outs.at_, fun j hj b hv hq => h.outs.apart j hj b hv hq.symm⟩⟩
theorem CopyW.same (h : CopyW w wr a n F a' n' F' vo vs O k) (hb : Below wr.heap.size wr wx) : CopyW w wx a n F a' n' F' vo vs O k :=
  ⟨h.both.same hb, h.own.chg (S := fun _ => False) (Chg.of_below hb) fun _ _ h => h, h.low, h.apart, h.outs.same hb⟩
theorem CopyW.left (h : CopyW w wr a n F a' n' F' vo vs O k) (hs : Sent wr wx a m F FF v1 v2 L D) : CopyW w wx a m FF a' n' F' vo vs O k ∧ ∀ b, (v1.ownBlock = some b ∨ v2.ownBlock = some b) → ¬ bad2 a FF a' F' b := by
  have hbad : ∀ j, bad2 a FF a' F' j → bad2 a F a' F' j ∨ wr.heap.size ≤ j := fun j hj => hj.elim (fun hf => (hs.moves.fresh j hf).imp .inl id) (fun hf => .inl (.inr hf))
  refine ⟨⟨h.both.left hs, h.own.chg hs.moves.chg (fun b hb hf => h.apart b hb (.inl hf)), h.low, fun b hb hq => ?_, ?_⟩, fun b hb hq => ?_⟩
  · rcases hbad b hq with h1 | h1
    · exact h.apart b hb h1
    · have := h.own.lt hb; omega
  · have h1 : Outs w wx (bad2 a F a' F') vs O k := h.outs.chg hs.moves.chg fun j hj => .inl hj
    exact ⟨h1.at_, fun j hj b hv hq => by
      rcases hbad b hq with h2 | h2
      · exact h1.apart j hj b hv h2
      · rcases hv with hv | hv
        · have := (h.outs.at_ j hj).1.1.lt hv; omega
        · have := (h.outs.at_ j hj).2.1.lt hv; omega⟩
  · have key : ¬ nFp a FF b ∧ (nFp a F b ∨ wr.heap.size ≤ b) := hb.elim (hs.apart1 b) (hs.apart2 b)
    rcases hq with hq | hq
    · exact key.1 hq
    · rcases key.2 with h2 | h2
      · exact h.both.apart b h2 hq
      · have := h.both.two.here.lt b hq; omega
theorem CopyW.push (h : CopyW w wr a n F a' n' F' vo vs O k) (h1 : Own0 w wr 44 11 v1 ((O k).1.map Letter.cells)) (h2 : Own0 w wr 60 7 v2 ((O k).2.map Done.cells)) (hb : ∀ b, (v1.ownBlock = some b ∨ v2.ownBlock = some b) → ¬ bad2 a F a' F' b)
    (ho : OwnSl wx 35 2 vo' (outRows vs k ++ [[v1, v2]])) (hc : Chg (fun j => vo.ownBlock = some j) wr wx) (hloc : vo'.ownBlock = vo.ownBlock ∨ ∃ b, vo'.ownBlock = some b ∧ wr.heap.size ≤ b) :
    CopyW w wx a n F a' n' F' vo' (fun j => if j = k then (v1, v2) else vs j) O (k + 1) := by
  refine ⟨h.both.chg hc fun j hj => ⟨h.apart j hj, h.low j hj⟩, by rw [outRows_snoc vs k (v1, v2)] at ho; exact ho, fun b hb' => ?_, fun b hb' hq => ?_, (h.outs.add h1 h2 hb).typed hc fun j hj => h.own.typed hj⟩
  · rcases hloc with e | ⟨b', e, hl⟩
    · exact h.low b (e ▸ hb')
    · rw [e] at hb'; injection hb' with hb'; have := h.both.one.below.size; omega
  · rcases hloc with e | ⟨b', e, hl⟩
    · exact h.apart b (e ▸ hb') hq
    · rw [e] at hb'; injection hb' with hb'
      rcases hq with hq | hq
      · have := h.both.one.here.lt b hq; omega
      · have := h.both.two.here.lt b hq; omega
end
theorem outRow_ok {B1 B2 : Option Addr} {i1 i2 s1 s2 : Nat} : RowsOk 2 [[Value.slice B1 i1 s1, Value.slice B2 i2 s2]] := ⟨by simp, fun r hr u hu => by
  simp only [List.mem_singleton] at hr
  subst hr
  simp only [List.mem_cons, List.not_mem_nil, or_false] at hu
  rcases hu with rfl | rfl <;> rfl⟩
theorem act15_info : ∃ i, Tryz.prog.info? 46 = some i ∧ i.size = 18 := by
  have h : (Tryz.prog.info? 46).map (·.size) = some 18 := by kernel_rfl
  cases e : Tryz.prog.info? 46 with
  | none => rw [e] at h; cases h
  | some i => rw [e] at h; exact ⟨i, rfl, by simpa using h⟩
def outAt (n : Node) (l : List Act15) (j : Nat) : List Letter × List Done := ((stepAll n (l.take j)).step (l.getD j default)).2
end Go.Proofs.YtchlioikkhnidaaGreat
