/-
  Tokens: what Split, Do and May come to, the program's and the document's.
-/
import Derived.Test.YtchlioikkhnidaaGreatMF
import Derived.Test.YtchlioikkhnidaaGreatME
import Derived.BigRegion
import Derived.Deep.LoopGhost
import Derived.Deep.CutBlock
import Derived.StillTailTactics
set_option linter.unusedVariables false
set_option linter.unusedSimpArgs false
namespace Go.Proofs.YtchlioikkhnidaaGreat
open Go.RowKit Go.Sort Go.ChangeShapes Go.WideShapes Go.ChangeAt
open Go.ChangeMaps (setBlock)
set_option linter.unusedVariables false
set_option linter.unusedSimpArgs false

set_option maxHeartbeats 1000000 in
theorem RefMay_calls (write : Bool) (h : Bundle) (tokens : Int) (w : World) : Calls Tryz.prog 157 #[.bool write, h.val, .int .i64 tokens] w (Pure w (.bool (h.may write tokens))) := by
  obtain ⟨hc, ho, hh, hd⟩ := h
  simp only [Bundle.val, Bundle.cells]
  go_enter Tryz.func157, Tryz.ntmps157
  cases write <;> cases hh
  all_goals
    go_wp2_with fail
    all_goals go_ret
    all_goals refine pure_of ?_ (by repeat (first | with_reducible exact Chg.refl _ _ | with_reducible exact chg0 | with_reducible refine Chg.drewN ?_ _ | with_reducible refine Chg.drew ?_ | with_reducible refine Chg.alloc ?_ _ | with_reducible refine Chg.setCell ?_ _ _ (by first | (simp; done) | omega | (simp; omega)) | with_reducible refine Chg.setBlock ?_ _ _ (by first | (simp; done) | omega | (simp; omega)) | exact Chg.refl _ _))
    all_goals simp only [Bundle.may]
    all_goals (first | (simp_all; done) | (simp_all; omega) | (simp [beq_int]; omega))

set_option maxHeartbeats 1000000 in
theorem RefDo_calls (op : Op) (h : Bundle) (tokens : Int) (w : World) : Calls Tryz.prog 138 #[op.val, h.val, .int .i64 tokens] w (Pure w (.tuple #[(h.does op tokens).1.val, .int .i64 (h.does op tokens).2.1, .bool (h.does op tokens).2.2])) := by
  have hM := RefMay_calls op.write h tokens
  have hds : h.does op tokens = if h.may op.write tokens = true then (h.done op, (h.done op).data, true) else (h, 0, false) := rfl
  obtain ⟨m, hm⟩ : ∃ m, m = h.may op.write tokens := ⟨_, rfl⟩
  rw [← hm] at hds
  simp only [← hm] at hM
  have HM := Lib.hid hM
  have HDS := Lib.hid hds
  clear hM hds hm
  obtain ⟨obk, ow, ov⟩ := op
  obtain ⟨hc, ho, hh, hd⟩ := h
  simp only [Bundle.val, Bundle.cells, Op.val, Op.cells]
  go_enter Tryz.func138, Tryz.ntmps138
  go_wp2_with fail
  refine (HM.out _).mono ?_
  rintro e w' ⟨rfl, hb'⟩
  have o0 : ob w' w.heap.size = some (.cells #[.int .i64 obk, .bool ow, .int .i64 ov] 25 (0, 0)) := (Chg.of_below (S := fun _ => False) hb').ob (by simp [go_sem]) (fun h => h)
  have o1 : ob w' (w.heap.size + 1) = some (.cells #[.int .i64 hc, .bool ho, .bool hh, .int .i64 hd] 42 (0, 0)) := (Chg.of_below (S := fun _ => False) hb').ob (by simp [go_sem]) (fun h => h)
  have o2 : ob w' (w.heap.size + 1 + 1) = some (.cells #[.int .i64 0, .bool false, .bool false, .int .i64 0] 42 (0, 0)) := (Chg.of_below (S := fun _ => False) hb').ob (by simp [go_sem]) (fun h => h)
  obtain ⟨a0, a1, a2, af⟩ := ob_cells3 o0
  obtain ⟨b0, b1, b2, b3, bf⟩ := ob_cells4 o1
  obtain ⟨d0, d1, d2, d3, df⟩ := ob_cells4 o2
  have l0 := ob_lt o0
  have l1 := ob_lt o1
  have l2 := ob_lt o2
  have chg0 : Chg (fun _ => False) w w' := Chg.of_below (below_trans (Chg.below (by repeat (first | with_reducible exact Chg.refl _ _ | with_reducible exact chg0 | with_reducible refine Chg.drewN ?_ _ | with_reducible refine Chg.drew ?_ | with_reducible refine Chg.alloc ?_ _ | with_reducible refine Chg.setCell ?_ _ _ (by first | (simp; done) | omega | (simp; omega)) | with_reducible refine Chg.setBlock ?_ _ _ (by first | (simp; done) | omega | (simp; omega)) | exact Chg.refl _ _))) hb')
  clear hb'
  cases m <;> cases ow
  all_goals
    go_wp2_with fail
    (try (go_big_region; go_wp2_with fail))
    (try simp only [Exit.inBlock, Exit.then])
    refine bodyRet3 _ _ _ rfl rfl (ResIs.row Tryz.underlying42 rfl (by kernel_rfl) rfl (by simp [go_sem, o1, o2, l1, l2]; exact ⟨rfl, rfl, rfl⟩)) ResIs.tmp ResIs.tmp ?_
    refine pure_of ?_ (by repeat (first | with_reducible exact Chg.refl _ _ | with_reducible exact chg0 | with_reducible refine Chg.drewN ?_ _ | with_reducible refine Chg.drew ?_ | with_reducible refine Chg.alloc ?_ _ | with_reducible refine Chg.setCell ?_ _ _ (by first | (simp; done) | omega | (simp; omega)) | with_reducible refine Chg.setBlock ?_ _ _ (by first | (simp; done) | omega | (simp; omega)) | exact Chg.refl _ _))
    rw [HDS.out]
    rfl

set_option maxHeartbeats 1000000 in
theorem Do_calls (op : Op) (h : Bundle) (tokens : Int) (w : World) : Calls Tryz.prog 124 #[op.val, h.val, .int .i64 tokens] w (Pure w (.tuple #[(h.does op tokens).1.val, .int .i64 (h.does op tokens).2.1, .bool (h.does op tokens).2.2])) := by
  have hW := Writes_calls h tokens
  have hR := Reads_calls h
  have hds : h.does op tokens = if h.may op.write tokens = true then (h.done op, (h.done op).data, true) else (h, 0, false) := rfl
  have hmw : op.write = true → h.may op.write tokens = ((decide (1 ≤ h.count) && h.has) && decide (h.count = tokens)) := fun e => by rw [e]; simp [Bundle.may]
  have hmr : op.write = false → h.may op.write tokens = (decide (1 ≤ h.count) && h.has) := fun e => by rw [e]; simp [Bundle.may]
  obtain ⟨m, hm⟩ : ∃ m, m = h.may op.write tokens := ⟨_, rfl⟩
  rw [← hm] at hds hmw hmr
  have HDS := Lib.hid hds
  have HWR := Lib.hid (show op.write = true → ∀ w, Calls Tryz.prog 147 #[h.val, .int .i64 tokens] w (Pure w (.bool m)) from fun e w => by rw [hmw e]; exact hW w)
  have HRD := Lib.hid (show op.write = false → ∀ w, Calls Tryz.prog 148 #[h.val] w (Pure w (.bool m)) from fun e w => by rw [hmr e]; exact hR w)
  clear hW hR hds hmw hmr hm
  obtain ⟨obk, ow, ov⟩ := op
  obtain ⟨hc, ho, hh, hd⟩ := h
  simp only [Bundle.val, Bundle.cells, Op.val, Op.cells]
  cases ow
  case false =>
    go_enter Tryz.func124, Tryz.ntmps124
    go_wp2_with fail
    first | refine (HRD.out (by simp) _).mono ?_ | refine (HWR.out (by simp) _).mono ?_
    rintro e w' ⟨rfl, hb'⟩
    have o0 : ob w' w.heap.size = some (.cells #[.int .i64 obk, .bool false, .int .i64 ov] 25 (0, 0)) := (Chg.of_below (S := fun _ => False) hb').ob (by simp [go_sem]) (fun h => h)
    have o1 : ob w' (w.heap.size + 1) = some (.cells #[.int .i64 hc, .bool ho, .bool hh, .int .i64 hd] 42 (0, 0)) := (Chg.of_below (S := fun _ => False) hb').ob (by simp [go_sem]) (fun h => h)
    have o2 : ob w' (w.heap.size + 1 + 1) = some (.cells #[.int .i64 0, .bool false, .bool false, .int .i64 0] 42 (0, 0)) := (Chg.of_below (S := fun _ => False) hb').ob (by simp [go_sem]) (fun h => h)
    obtain ⟨a0, a1, a2, af⟩ := ob_cells3 o0
    obtain ⟨b0, b1, b2, b3, bf⟩ := ob_cells4 o1
    obtain ⟨d0, d1, d2, d3, df⟩ := ob_cells4 o2
    have l0 := ob_lt o0
    have l1 := ob_lt o1
    have l2 := ob_lt o2
    have chg0 : Chg (fun _ => False) w w' := Chg.of_below (below_trans (Chg.below (by repeat (first | with_reducible exact Chg.refl _ _ | with_reducible exact chg0 | with_reducible refine Chg.drewN ?_ _ | with_reducible refine Chg.drew ?_ | with_reducible refine Chg.alloc ?_ _ | with_reducible refine Chg.setCell ?_ _ _ (by first | (simp; done) | omega | (simp; omega)) | with_reducible refine Chg.setBlock ?_ _ _ (by first | (simp; done) | omega | (simp; omega)) | exact Chg.refl _ _))) hb')
    clear hb'
    cases m
    all_goals
      go_wp2_with fail
      (try (go_big_region; go_wp2_with fail))
      (try simp only [Exit.inBlock, Exit.then])
      refine bodyRet3 _ _ _ rfl rfl (ResIs.row Tryz.underlying42 rfl (by kernel_rfl) rfl (by simp [go_sem, o1, o2, l1, l2]; exact ⟨rfl, rfl, rfl⟩)) ResIs.tmp ResIs.tmp ?_
      refine pure_of ?_ (by repeat (first | with_reducible exact Chg.refl _ _ | with_reducible exact chg0 | with_reducible refine Chg.drewN ?_ _ | with_reducible refine Chg.drew ?_ | with_reducible refine Chg.alloc ?_ _ | with_reducible refine Chg.setCell ?_ _ _ (by first | (simp; done) | omega | (simp; omega)) | with_reducible refine Chg.setBlock ?_ _ _ (by first | (simp; done) | omega | (simp; omega)) | exact Chg.refl _ _))
      rw [HDS.out]
      rfl
  case true =>
    go_enter Tryz.func124, Tryz.ntmps124
    go_wp2_with fail
    first | refine (HRD.out (by simp) _).mono ?_ | refine (HWR.out (by simp) _).mono ?_
    rintro e w' ⟨rfl, hb'⟩
    have o0 : ob w' w.heap.size = some (.cells #[.int .i64 obk, .bool true, .int .i64 ov] 25 (0, 0)) := (Chg.of_below (S := fun _ => False) hb').ob (by simp [go_sem]) (fun h => h)
    have o1 : ob w' (w.heap.size + 1) = some (.cells #[.int .i64 hc, .bool ho, .bool hh, .int .i64 hd] 42 (0, 0)) := (Chg.of_below (S := fun _ => False) hb').ob (by simp [go_sem]) (fun h => h)
    have o2 : ob w' (w.heap.size + 1 + 1) = some (.cells #[.int .i64 0, .bool false, .bool false, .int .i64 0] 42 (0, 0)) := (Chg.of_below (S := fun _ => False) hb').ob (by simp [go_sem]) (fun h => h)
    obtain ⟨a0, a1, a2, af⟩ := ob_cells3 o0
    obtain ⟨b0, b1, b2, b3, bf⟩ := ob_cells4 o1
    obtain ⟨d0, d1, d2, d3, df⟩ := ob_cells4 o2
    have l0 := ob_lt o0
    have l1 := ob_lt o1
    have l2 := ob_lt o2
    have chg0 : Chg (fun _ => False) w w' := Chg.of_below (below_trans (Chg.below (by repeat (first | with_reducible exact Chg.refl _ _ | with_reducible exact chg0 | with_reducible refine Chg.drewN ?_ _ | with_reducible refine Chg.drew ?_ | with_reducible refine Chg.alloc ?_ _ | with_reducible refine Chg.setCell ?_ _ _ (by first | (simp; done) | omega | (simp; omega)) | with_reducible refine Chg.setBlock ?_ _ _ (by first | (simp; done) | omega | (simp; omega)) | exact Chg.refl _ _))) hb')
    clear hb'
    cases m
    all_goals
      go_wp2_with fail
      (try (go_big_region; go_wp2_with fail))
      (try simp only [Exit.inBlock, Exit.then])
      refine bodyRet3 _ _ _ rfl rfl (ResIs.row Tryz.underlying42 rfl (by kernel_rfl) rfl (by simp [go_sem, o1, o2, l1, l2]; exact ⟨rfl, rfl, rfl⟩)) ResIs.tmp ResIs.tmp ?_
      refine pure_of ?_ (by repeat (first | with_reducible exact Chg.refl _ _ | with_reducible exact chg0 | with_reducible refine Chg.drewN ?_ _ | with_reducible refine Chg.drew ?_ | with_reducible refine Chg.alloc ?_ _ | with_reducible refine Chg.setCell ?_ _ _ (by first | (simp; done) | omega | (simp; omega)) | with_reducible refine Chg.setBlock ?_ _ _ (by first | (simp; done) | omega | (simp; omega)) | exact Chg.refl _ _))
      rw [HDS.out]
      rfl

set_option maxHeartbeats 2000000 in
theorem RefJoin_calls (h b : Bundle) (w : World) (g : h.Good) (h1 : h.count ≤ 1000000000000) (h2 : b.count ≤ 1000000000000) (h3 : 0 ≤ b.count) :
    Calls Tryz.prog 110 #[h.val, b.val] w (Pure w (h.join b).val) := by
  have hpos := g.pos
  obtain ⟨hc, ho, hh, hd⟩ := h
  obtain ⟨bc, bo, bh, bd⟩ := b
  simp only at h1 h2 h3 hpos
  have e1 : IntKind.i64.wrap (hc + bc) = hc + bc := by rw [IntKind.wrap_i64]; omega
  simp only [Bundle.val, Bundle.cells]
  go_enter Tryz.func110, Tryz.ntmps110
  cases bo <;> cases bh
  all_goals
    go_wp2_with fail
    (try simp only [Exit.inBlock, Exit.then])
    refine bodyRet1 _ rfl rfl (ResIs.row Tryz.underlying42 rfl (by kernel_rfl) rfl (by simp [go_sem]; exact ⟨rfl, rfl, rfl⟩)) ?_
    refine pure_of ?_ (by repeat (first | with_reducible exact Chg.refl _ _ | with_reducible exact chg0 | with_reducible refine Chg.drewN ?_ _ | with_reducible refine Chg.drew ?_ | with_reducible refine Chg.alloc ?_ _ | with_reducible refine Chg.setCell ?_ _ _ (by first | (simp; done) | omega | (simp; omega)) | with_reducible refine Chg.setBlock ?_ _ _ (by first | (simp; done) | omega | (simp; omega)) | exact Chg.refl _ _))
    simp [Bundle.join, Bundle.val, Bundle.cells]

end Go.Proofs.YtchlioikkhnidaaGreat

/-
  The program's cache: Take, Do.
-/
namespace Go.Proofs.YtchlioikkhnidaaGreat
open Go.RowKit Go.Sort Go.ChangeShapes Go.WideShapes Go.ChangeAt
open Go.ChangeMaps (setBlock)
set_option linter.unusedVariables false
set_option linter.unusedSimpArgs false

theorem keepDo {S : Nat → Prop} {w w' : World} {k p tb : Nat} {a b c d : Value} {o : Obj} (hc : Chg S w w') (h1 : ¬ S k) (h2 : ¬ S p) (h3 : ¬ S tb)
    (h : w.cell? ⟨k, 0, none⟩ = some a ∧ w.cell? ⟨k, 1, none⟩ = some b ∧ w.cell? ⟨k, 2, none⟩ = some c ∧ w.cell? ⟨p, 1, none⟩ = some d ∧ ob w tb = some o) :
    w'.cell? ⟨k, 0, none⟩ = some a ∧ w'.cell? ⟨k, 1, none⟩ = some b ∧ w'.cell? ⟨k, 2, none⟩ = some c ∧ w'.cell? ⟨p, 1, none⟩ = some d ∧ ob w' tb = some o :=
  ⟨hc.cell h.1 h1, hc.cell h.2.1 h1, hc.cell h.2.2.1 h1, hc.cell h.2.2.2.1 h2, hc.ob h.2.2.2.2 h3⟩
theorem CaGo.usePut {w W W' : World} {p lp tb : Nat} {o o3 : Obj} {f f' : Int → Option Value} {s : Lines} {FL : Nat → Prop} (b : Int) (r : CaRaw w p lp tb o f s FL) (ho : MapObj o3 f') (hB : Chg (fun _ => False) (setBlock W tb o3) W') (hA : Chg (fun _ => False) w W) :
    Calls Tryz.prog 125 #[.pointer (some ⟨lp, 0, none⟩), .int .i64 b] W' fun e w'' => e = .returned (.bool (s.has b)) ∧ ∃ FL', CaGo w w'' p lp tb f' (s.use b) FL FL' ∧ Moves W' w'' FL FL' :=
  CaGo.use b ((((CaGo.start r).same hA.below).put ho).same hB.below)
section
variable {w w' : World} {p : Nat} {c : CacheM} {F : Nat → Prop}
set_option maxHeartbeats 4000000 in
set_option maxRecDepth 20000 in
theorem CacheDo_calls (op : Op) (tokens : Int) (h : CacheAt w p c F) :
    Calls Tryz.prog 78 #[.pointer (some ⟨p, 0, none⟩), op.val, .int .i64 tokens] w fun e w' =>
      e = .returned (.tuple #[.int .i64 (c.does op tokens).2.1, .bool (c.does op tokens).2.2]) ∧ ∃ F', CacheAt w' p (c.does op tokens).1 F' ∧ Moves w w' F F' := by
  have ok := h.ok
  have hD := Do_calls op (c.tok op.block) tokens
  have hds : (c.tok op.block).does op tokens = if (c.tok op.block).may op.write tokens = true then ((c.tok op.block).done op, ((c.tok op.block).done op).data, true) else (c.tok op.block, 0, false) := rfl
  have hcd : c.does op tokens = if (c.tok op.block).may op.write tokens = true then ((c.set op.block ((c.tok op.block).done op)).use op.block, ((c.tok op.block).done op).data, true) else (c, 0, false) := rfl
  have oka := CacheM.does_ok ok op tokens
  have hmi := @Bundle.may_iff (c.tok op.block) op.write tokens
  obtain ⟨m, hm⟩ : ∃ m, m = (c.tok op.block).may op.write tokens := ⟨_, rfl⟩
  rw [← hm] at hds hcd hmi
  rw [hds] at hD
  have HD := Lib.hid hD
  have HCD := Lib.hid hcd
  have HMI := Lib.hid hmi
  have HFl := Lib.hid (fun j (hj : F j) => h.lt hj)
  have H := Lib.hid h
  have OK := Lib.hid ok
  have OKA := Lib.hid oka
  obtain ⟨lp, tb, o, f, FL, r, ht, _, hF, hFl⟩ := h
  have k1 : w.cell? ⟨p, 1, none⟩ = some (.map (some tb)) := cell_ob r.at_ 1
  have hm0 := r.map
  have lt' := ob_lt r.map
  have lp' := ob_lt r.at_
  obtain ⟨obk, ow, ov⟩ := op
  have hlk : ∀ W : World, ob W tb = some o → (Instr.lookup 170 (.map (some tb)) (.int .i64 obk) false).run Tryz.prog W = .ok (c.tok obk).val W := fun W hW => by
    rw [r.obj.lookup tyIB obk _ W hW, ht.get ok]
  simp only [Bundle.val, Bundle.cells] at hlk
  have R := Lib.hid r
  have HT := Lib.hid ht
  have HF := Lib.hid hF
  clear hD hds hcd hmi hm ok oka r ht hF hFl
  simp only [Op.val, Op.cells]
  go_enter Tryz.func78, Tryz.ntmps78
  have AA := Lib.hid (show ∀ W, Chg (fun _ => False) (w.alloc (Obj.cells #[Value.int IntKind.i64 obk, Value.bool ow, Value.int IntKind.i64 ov] 25)) W → W.cell? ⟨w.heap.size, 0, none⟩ = some (.int .i64 obk) ∧ W.cell? ⟨w.heap.size, 1, none⟩ = some (.bool ow) ∧ W.cell? ⟨w.heap.size, 2, none⟩ = some (.int .i64 ov) ∧ W.cell? ⟨p, 1, none⟩ = some (.map (some tb)) ∧ ob W tb = some o from fun W hc => keepDo hc (fun h => h) (fun h => h) (fun h => h) ⟨by simp [go_sem], by simp [go_sem], by simp [go_sem], by simp [go_sem, k1, lp'], by simp [go_sem, hm0, lt']⟩)
  obtain ⟨d, hd⟩ : ∃ d : Bundle × Int × Bool, d = if m = true then ((c.tok obk).done ⟨obk, ow, ov⟩, ((c.tok obk).done ⟨obk, ow, ov⟩).data, true) else (c.tok obk, 0, false) := ⟨_, rfl⟩
  have HDD := Lib.hid hd
  simp only [← hd] at HD
  clear hd
  go_upto_region 1 with fail
  go_cut [8, 9, 10] (fun s8 s9 s10 wx => ∃ kb, s8 = .pointer (some ⟨kb, 0, none⟩) ∧ s9 = .int .i64 d.2.1 ∧ s10 = .bool d.2.2 ∧ Chg (fun _ => False) w wx ∧ w.heap.size < kb ∧ ob wx kb = some (.cells #[.int .i64 d.1.count, .bool d.1.owner, .bool d.1.has, .int .i64 d.1.data] 42 (0, 0)) ∧ wx.cell? ⟨w.heap.size, 0, none⟩ = some (.int .i64 obk))
  case first =>
    go_region_held3 (fun W => W.cell? ⟨w.heap.size, 0, none⟩ = some (.int .i64 obk) ∧ W.cell? ⟨w.heap.size, 1, none⟩ = some (.bool ow) ∧ W.cell? ⟨w.heap.size, 2, none⟩ = some (.int .i64 ov) ∧ W.cell? ⟨p, 1, none⟩ = some (.map (some tb)) ∧ ob W tb = some o) (first | assumption | (refine AA.out _ ?_; (repeat (first | with_reducible exact Chg.refl _ _ | with_reducible exact chg0 | with_reducible refine Chg.drewN ?_ _ | with_reducible refine Chg.drew ?_ | with_reducible refine Chg.alloc ?_ _ | with_reducible refine Chg.setCell ?_ _ _ (by first | (simp; done) | omega | (simp; omega)) | with_reducible refine Chg.setBlock ?_ _ _ (by first | (simp; done) | omega | (simp; omega)) | exact Chg.refl _ _)); done) | (refine keepDo (S := fun j => w.heap.size < j) ?_ (Nat.lt_irrefl _) (by omega) (by omega) (by assumption); (repeat (first | with_reducible exact Chg.refl _ _ | with_reducible exact chg0 | with_reducible refine Chg.drewN ?_ _ | with_reducible refine Chg.drew ?_ | with_reducible refine Chg.alloc ?_ _ | with_reducible refine Chg.setCell ?_ _ _ (by first | (simp; done) | omega | (simp; omega)) | with_reducible refine Chg.setBlock ?_ _ _ (by first | (simp; done) | omega | (simp; omega)) | exact Chg.refl _ _)); done) | (refine keepDo (S := fun j => w.heap.size < j) ?_ (Nat.lt_irrefl _) (by omega) (by omega) hx3; (repeat (first | with_reducible exact Chg.refl _ _ | with_reducible exact chg0 | with_reducible refine Chg.drewN ?_ _ | with_reducible refine Chg.drew ?_ | with_reducible refine Chg.alloc ?_ _ | with_reducible refine Chg.setCell ?_ _ _ (by first | (simp; done) | omega | (simp; omega)) | with_reducible refine Chg.setBlock ?_ _ _ (by first | (simp; done) | omega | (simp; omega)) | exact Chg.refl _ _)); done) | fail) (first
      | (go_at_call 124; refine (HD.out _).mono ?_; rintro e w3 ⟨rfl, hb3⟩; simp only [Bundle.val, Bundle.cells]; have hx3 := keepDo (S := fun _ => False) (Chg.of_below hb3) (fun h => h) (fun h => h) (fun h => h) (by first | assumption | (refine AA.out _ ?_; (repeat (first | with_reducible exact Chg.refl _ _ | with_reducible exact chg0 | with_reducible refine Chg.drewN ?_ _ | with_reducible refine Chg.drew ?_ | with_reducible refine Chg.alloc ?_ _ | with_reducible refine Chg.setCell ?_ _ _ (by first | (simp; done) | omega | (simp; omega)) | with_reducible refine Chg.setBlock ?_ _ _ (by first | (simp; done) | omega | (simp; omega)) | exact Chg.refl _ _)); done) | fail); have chg0 : Chg (fun _ => False) w w3 := Chg.of_below (below_trans (Chg.below (by repeat (first | with_reducible exact Chg.refl _ _ | with_reducible exact chg0 | with_reducible refine Chg.drewN ?_ _ | with_reducible refine Chg.drew ?_ | with_reducible refine Chg.alloc ?_ _ | with_reducible refine Chg.setCell ?_ _ _ (by first | (simp; done) | omega | (simp; omega)) | with_reducible refine Chg.setBlock ?_ _ _ (by first | (simp; done) | omega | (simp; omega)) | exact Chg.refl _ _))) hb3); have lw3 := World.block_lt_of_cell? w3 _ hx3.1; simp only at lw3; (try (have q3 := ob_step (b := (w.heap.size + 1)) hb3 (ob_alloc2 w _ _); obtain ⟨q30, q31, q32, q33, q3f⟩ := ob_cells4 q3; have q3l := ob_lt q3)); clear hb3))
    all_goals (go_wp2_with fail)
    all_goals go_meet
    all_goals refine ⟨_, rfl, rfl, rfl, (by repeat (first | with_reducible exact Chg.refl _ _ | with_reducible exact chg0 | with_reducible refine Chg.drewN ?_ _ | with_reducible refine Chg.drew ?_ | with_reducible refine Chg.alloc ?_ _ | with_reducible refine Chg.setCell ?_ _ _ (by first | (simp; done) | omega | (simp; omega)) | with_reducible refine Chg.setBlock ?_ _ _ (by first | (simp; done) | omega | (simp; omega)) | exact Chg.refl _ _)), ?_, ?_, ?_⟩
    all_goals first
      | omega
      | (simp; done)
      | (simp [go_sem]; done)
      | (simp [go_sem, q3, setAt]; done)
      | (refine (keepDo (S := fun j => w.heap.size < j) ?_ (Nat.lt_irrefl _) (by omega) (by omega) hx3).1; (repeat (first | with_reducible exact Chg.refl _ _ | with_reducible exact chg0 | with_reducible refine Chg.drewN ?_ _ | with_reducible refine Chg.drew ?_ | with_reducible refine Chg.alloc ?_ _ | with_reducible refine Chg.setCell ?_ _ _ (by first | (simp; done) | omega | (simp; omega)) | with_reducible refine Chg.setBlock ?_ _ _ (by first | (simp; done) | omega | (simp; omega)) | exact Chg.refl _ _)); done)
  case rest =>
    obtain ⟨kb, rfl, rfl, rfl, hch, hkb, hob, hop⟩ := hcut
    clear AA HD
    obtain ⟨x0, x1, x2, x3, xf⟩ := ob_cells4 hob
    have lkb := ob_lt hob
    have hszc := hch.size
    have y1 : wc.cell? ⟨p, 1, none⟩ = some (.map (some tb)) := hch.cell k1 (fun h => h)
    have y2 : ob wc tb = some o := hch.ob hm0 (fun h => h)
    have lpc : p < wc.heap.size := by omega
    have ltc : tb < wc.heap.size := by omega
    have lkc : w.heap.size < wc.heap.size := by omega
    clear k1 hm0 hob
    cases m with
    | false =>
      obtain rfl : d = (c.tok obk, 0, false) := by rw [HDD.out]; rfl
      go_wp2_with fail
      go_ret2
      rw [HCD.out]
      exact ⟨rfl, F, H.out.chg (S := fun _ => False) hch (fun _ _ h => h), Moves.none hch⟩
    | true =>
      obtain rfl : d = ((c.tok obk).done ⟨obk, ow, ov⟩, ((c.tok obk).done ⟨obk, ow, ov⟩).data, true) := by rw [HDD.out]; rfl
      obtain ⟨o3, ho3, hup⟩ := R.out.obj.update tyIB obk (((c.tok obk).done ⟨obk, ow, ov⟩).val) tb
      have HO3 := Lib.hid ho3
      simp only [Bundle.val, Bundle.cells] at hup x0 x1 x2 x3
      clear ho3
      go_upto_region 3 with fail
      go_cut [] (fun wx => CaGo w wx p lp tb (upd f obk (((c.tok obk).done ⟨obk, ow, ov⟩).val)) c.lines FL FL ∧ wx.cell? ⟨w.heap.size, 0, none⟩ = some (.int .i64 obk))
      case first =>
        go_big_region
        all_goals (go_wp2_with fail)
        all_goals go_meet
        all_goals refine ⟨(((CaGo.start R.out).same hch.below).put HO3.out).same (Chg.below (by repeat (first | with_reducible exact Chg.refl _ _ | with_reducible exact chg0 | with_reducible refine Chg.drewN ?_ _ | with_reducible refine Chg.drew ?_ | with_reducible refine Chg.alloc ?_ _ | with_reducible refine Chg.setCell ?_ _ _ (by first | (simp; done) | omega | (simp; omega)) | with_reducible refine Chg.setBlock ?_ _ _ (by first | (simp; done) | omega | (simp; omega)) | exact Chg.refl _ _))), ?_⟩
        all_goals (show (setBlock wc tb o3).cell? ⟨w.heap.size, 0, none⟩ = _; rw [World.cell?_of_block (ob_setBlock_ne _ _ _ _ (show w.heap.size ≠ tb by omega))]; exact hop)
      case rest =>
        obtain ⟨hg, hop2⟩ := hcut
        have k0 := hg.cells.1
        have HG := Lib.hid hg
        have lj := World.block_lt_of_cell? _ _ hop2
        have lpj := World.block_lt_of_cell? _ _ k0
        simp only at lj lpj
        clear hg x0 x1 x2 x3 xf hup
        go_wp2_with fail
        go_still_tail 6, (by kernel_rfl)
        go_wp2_with fail
        refine (CaGo.use obk (HG.out.same (Chg.below (by repeat (first | with_reducible exact Chg.refl _ _ | with_reducible exact chg0 | with_reducible refine Chg.drewN ?_ _ | with_reducible refine Chg.drew ?_ | with_reducible refine Chg.alloc ?_ _ | with_reducible refine Chg.setCell ?_ _ _ (by first | (simp; done) | omega | (simp; omega)) | with_reducible refine Chg.setBlock ?_ _ _ (by first | (simp; done) | omega | (simp; omega)) | exact Chg.refl _ _))))).mono ?_
        rintro e w6 ⟨rfl, F6, h6, m6⟩
        have H6 := Lib.hid h6
        clear h6 m6
        go_wp2_with fail
        go_ret2
        rw [HCD.out] at OKA ⊢
        have hpos : 0 < ((c.tok obk).done ⟨obk, ow, ov⟩).count := by rw [Bundle.done_count]; have := (HMI.out.1 (by trivial)).1; omega
        refine ⟨rfl, H6.out.done ?_ (HT.out.upd obk _ hpos) OKA.out HF.out HFl.out⟩
        show ((c.set obk ((c.tok obk).done ⟨obk, ow, ov⟩)).lines).use obk = _
        simp only [CacheM.set]
        rw [if_pos hpos]
end
end Go.Proofs.YtchlioikkhnidaaGreat
