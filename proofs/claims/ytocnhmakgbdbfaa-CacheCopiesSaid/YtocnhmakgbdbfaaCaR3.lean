/-
  The document's cache: Take, Do.
-/
import Derived.Test.YtocnhmakgbdbfaaCaR2
import Derived.Test.YtocnhmakgbdbfaaCa2
import Derived.StillTailTactics
namespace Go.Proofs.Ytocnhmakgbdbfaa
open Go.RowKit Go.Sort Go.ChangeShapes Go.WideShapes Go.ChangeAt
open Go.ChangeMaps (setBlock)
set_option linter.unusedVariables false
set_option linter.unusedSimpArgs false

section
variable {w w' : World} {p : Nat} {c : CacheM} {F : Nat → Prop}
theorem RefCacheAt.get (b : Int) (h : RefCacheAt w p c F) : Calls Try.prog 36 #[.pointer (some ⟨p, 0, none⟩), .int .i64 b] w (Pure w (c.tok b).val) := by
  obtain ⟨lp, D, r, ht, ok⟩ := h
  rw [← ht.look ok.good b]
  exact RefGet_calls b r
theorem RefCacheAt.set (b : Int) (t : Bundle) (h : RefCacheAt w p c F) (g : t.Good) (hb : 0 < t.count → b ∈ c.lines.all) : Calls Try.prog 57 #[.pointer (some ⟨p, 0, none⟩), .int .i64 b, t.val] w fun e w' =>
    e = .returned (.tuple #[]) ∧ ∃ F', RefCacheAt w' p (c.set b t) F' ∧ Moves w w' F F' := by
  obtain ⟨lp, D, r, ht, ok⟩ := h
  have := Toks.few ht ok
  exact (RefSet_calls b t r (by omega)).mono fun _ _ ⟨e, F', h1, h2⟩ => ⟨e, F', ⟨lp, _, h1, ht.set b t, CacheM.set_ok ok g hb⟩, h2⟩

set_option maxHeartbeats 4000000 in
set_option maxRecDepth 20000 in
theorem RefTake_calls (block count : Int) (owner data : Bool) (h : RefCacheAt w p c F) (hb : (c.tok block).count ≤ 1000000000000) :
    Calls Try.prog 34 #[.pointer (some ⟨p, 0, none⟩), .int .i64 block, .int .i64 count, .bool owner, .bool data] w fun e w' =>
      e = .returned (c.take block count owner data).2.val ∧ ∃ F', RefCacheAt w' p (c.take block count owner data).1 F' ∧ Moves w w' F F' := by
  have ok := h.ok
  have hsg := Bundle.split_good (ok.good block) count owner data
  have hsc := Bundle.split_count (ok.good block) count owner data
  obtain ⟨s1, hs1⟩ : ∃ x, x = ((c.tok block).split count owner data).1 := ⟨_, rfl⟩
  obtain ⟨s2, hs2⟩ : ∃ x, x = ((c.tok block).split count owner data).2 := ⟨_, rfl⟩
  have ht : c.take block count owner data = (c.set block ((c.tok block).split count owner data).2, ((c.tok block).split count owner data).1) := rfl
  have hS := RefSplit_calls (c.tok block) count owner data
  simp only [← hs1, ← hs2] at ht hS hsg hsc
  have HS := Lib.hid hS
  have HFl := Lib.hid (fun j (hj : F j) => h.lt hj)
  have H := Lib.hid h
  have hmem : 0 < s2.count → block ∈ c.lines.all := fun hp => (ok.mem block).2 (by have := hsg.1.pos; omega)
  have HM := Lib.hid hmem
  have OK := Lib.hid ok
  have HG := Lib.hid hsg
  rw [ht]
  clear ht hS hs1 hs2 h hmem hsg hsc ok
  simp only [Bundle.val, Bundle.cells]
  go_enter Try.func34, Try.ntmps34
  go_wp2_with fail
  refine (RefCacheAt.get block (H.out.below (Chg.below (by repeat (first | with_reducible exact Chg.refl _ _ | with_reducible exact chg0 | with_reducible refine Chg.drewN ?_ _ | with_reducible refine Chg.drew ?_ | with_reducible refine Chg.alloc ?_ _ | with_reducible refine Chg.setCell ?_ _ _ (by first | (simp; done) | omega | (simp; omega)) | with_reducible refine Chg.setBlock ?_ _ _ (by first | (simp; done) | omega | (simp; omega)) | exact Chg.refl _ _))))).mono ?_
  rintro e w1 ⟨rfl, hb1⟩
  have z1 : ob w1 w.heap.size = some (.cells #[.int .i64 0, .bool false, .bool false, .int .i64 0] 47 (0, 0)) := (Chg.of_below (S := fun _ => False) hb1).ob (by simp [go_sem]) (fun h => h)
  have ch1 : Chg (fun _ => False) w w1 := Chg.of_below (below_trans (Chg.below (by repeat (first | with_reducible exact Chg.refl _ _ | with_reducible exact chg0 | with_reducible refine Chg.drewN ?_ _ | with_reducible refine Chg.drew ?_ | with_reducible refine Chg.alloc ?_ _ | with_reducible refine Chg.setCell ?_ _ _ (by first | (simp; done) | omega | (simp; omega)) | with_reducible refine Chg.setBlock ?_ _ _ (by first | (simp; done) | omega | (simp; omega)) | exact Chg.refl _ _))) hb1)
  simp only [Bundle.val, Bundle.cells]
  go_wp2_with fail
  refine (HS.out _ (OK.out.good block) hb).mono ?_
  rintro e w2 ⟨rfl, hb2⟩
  simp only [Bundle.val, Bundle.cells]
  have ch2 : Chg (fun _ => False) w w2 := ch1.trans (Chg.of_below hb2) (fun _ _ h => h)
  have z2 := (Chg.of_below (S := fun _ => False) hb2).ob z1 (fun h => h)
  have lz := ob_lt z2
  have H2 := Lib.hid (H.out.chg ch2 (fun _ _ h => h))
  clear ch1 hb1 z1
  go_wp2_with fail
  refine (RefCacheAt.set block s2 (H2.out.below (Chg.below (by repeat (first | with_reducible exact Chg.refl _ _ | with_reducible exact chg0 | with_reducible refine Chg.drewN ?_ _ | with_reducible refine Chg.drew ?_ | with_reducible refine Chg.alloc ?_ _ | with_reducible refine Chg.setCell ?_ _ _ (by first | (simp; done) | omega | (simp; omega)) | with_reducible refine Chg.setBlock ?_ _ _ (by first | (simp; done) | omega | (simp; omega)) | exact Chg.refl _ _)))) HG.out.2 HM.out).mono ?_
  rintro e w3 ⟨rfl, F3, h3, m3⟩
  have hF0 : ∀ j, F j → j ≠ w.heap.size ∧ j ≠ w2.heap.size := fun j hj => by have := HFl.out j hj; omega
  have o0 : ob w3 w.heap.size = some (.cells #[.int .i64 0, .bool false, .bool false, .int .i64 0] 47 (0, 0)) := m3.chg.ob (by simp [go_sem, z2, lz, Nat.lt_succ_of_lt lz]) (fun h => (hF0 _ h).1 rfl)
  have o1 : ob w3 w2.heap.size = some (.cells #[.int .i64 s1.count, .bool s1.owner, .bool s1.has, .int .i64 s1.data] 47 (0, 0)) := m3.chg.ob (by simp [go_sem]) (fun h => (hF0 _ h).2 rfl)
  obtain ⟨a0, a1, a2, a3, af⟩ := ob_cells4 o0
  obtain ⟨b0, b1, b2, b3, bf⟩ := ob_cells4 o1
  have l0 := ob_lt o0
  have l1 := ob_lt o1
  have H3 := Lib.hid h3
  have M3 := Lib.hid ((Moves.none (ch2.trans (S' := fun _ => False) (by repeat (first | with_reducible exact Chg.refl _ _ | with_reducible exact chg0 | with_reducible refine Chg.drewN ?_ _ | with_reducible refine Chg.drew ?_ | with_reducible refine Chg.alloc ?_ _ | with_reducible refine Chg.setCell ?_ _ _ (by first | (simp; done) | omega | (simp; omega)) | with_reducible refine Chg.setBlock ?_ _ _ (by first | (simp; done) | omega | (simp; omega)) | exact Chg.refl _ _)) (fun _ _ h => h))).trans m3)
  have hne : ∀ j, F3 j → ¬ j = w.heap.size := fun j hf e => by
    rcases m3.fresh j hf with h | h
    · exact (hF0 j h).1 e
    · simp [go_sem] at h; omega
  have NE := Lib.hid hne
  clear h3 m3 hne z2
  go_wp2_with fail
  (try simp only [Exit.inBlock, Exit.then])
  refine bodyRet1 _ rfl rfl (ResIs.row Try.underlying47 rfl (by kernel_rfl) rfl (by simp [go_sem, *]; exact ⟨rfl, rfl, rfl⟩)) ?_
  exact ⟨rfl, F3, H3.out.chg (S := fun j => j = w.heap.size) (by repeat (first | with_reducible exact Chg.refl _ _ | with_reducible exact chg0 | with_reducible refine Chg.drewN ?_ _ | with_reducible refine Chg.drew ?_ | with_reducible refine Chg.alloc ?_ _ | with_reducible refine Chg.setCell ?_ _ _ (by first | (simp; done) | omega | (simp; omega)) | with_reducible refine Chg.setBlock ?_ _ _ (by first | (simp; done) | omega | (simp; omega)) | exact Chg.refl _ _)) (fun j hf e => NE.out j hf e), M3.out.own (S := fun j => j = w.heap.size) (by repeat (first | with_reducible exact Chg.refl _ _ | with_reducible exact chg0 | with_reducible refine Chg.drewN ?_ _ | with_reducible refine Chg.drew ?_ | with_reducible refine Chg.alloc ?_ _ | with_reducible refine Chg.setCell ?_ _ _ (by first | (simp; done) | omega | (simp; omega)) | with_reducible refine Chg.setBlock ?_ _ _ (by first | (simp; done) | omega | (simp; omega)) | exact Chg.refl _ _)) (fun j e => by omega)⟩

set_option maxHeartbeats 4000000 in
set_option maxRecDepth 20000 in
theorem RefCacheDo_calls (op : Op) (tokens : Int) (h : RefCacheAt w p c F) :
    Calls Try.prog 35 #[.pointer (some ⟨p, 0, none⟩), op.val, .int .i64 tokens] w fun e w' =>
      e = .returned (.tuple #[.int .i64 (c.does op tokens).2.1, .bool (c.does op tokens).2.2]) ∧ ∃ F', RefCacheAt w' p (c.does op tokens).1 F' ∧ Moves w w' F F' := by
  have ok := h.ok
  have hD := RefDo_calls op (c.tok op.block) tokens
  have hds : (c.tok op.block).does op tokens = if (c.tok op.block).may op.write tokens = true then ((c.tok op.block).done op, ((c.tok op.block).done op).data, true) else (c.tok op.block, 0, false) := rfl
  have hcd : c.does op tokens = if (c.tok op.block).may op.write tokens = true then ((c.set op.block ((c.tok op.block).done op)).use op.block, ((c.tok op.block).done op).data, true) else (c, 0, false) := rfl
  have oka := CacheM.does_ok ok op tokens
  have hmi := @Bundle.may_iff (c.tok op.block) op.write tokens
  obtain ⟨m, hm⟩ : ∃ m, m = (c.tok op.block).may op.write tokens := ⟨_, rfl⟩
  rw [← hm] at hds hcd hmi
  rw [hds] at hD
  have HD := Lib.hid hD
  have HCD := Lib.hid hcd
  have HMI := Lib.hid hmi
  have HFl := Lib.hid (fun j (hj : F j) => h.lt hj)
  have H := Lib.hid h
  have OK := Lib.hid ok
  have OKA := Lib.hid oka
  clear hD hds hcd hmi hm h ok oka
  obtain ⟨obk, ow, ov⟩ := op
  simp only [Op.val, Op.cells]
  go_enter Try.func35, Try.ntmps35
  have AA := Lib.hid (show ∀ W, Chg (fun _ => False) (w.alloc (Obj.cells #[Value.int IntKind.i64 obk, Value.bool ow, Value.int IntKind.i64 ov] 49)) W → W.cell? ⟨w.heap.size, 0, none⟩ = some (.int .i64 obk) ∧ W.cell? ⟨w.heap.size, 1, none⟩ = some (.bool ow) ∧ W.cell? ⟨w.heap.size, 2, none⟩ = some (.int .i64 ov) from fun W hc => keep3 hc (fun h => h) ⟨by simp [go_sem], by simp [go_sem], by simp [go_sem]⟩)
  go_wp2_with fail
  cases m
  case false =>
    simp only [Bool.false_eq_true, if_false, if_true] at HD HCD
    go_region_held3 (fun W => W.cell? ⟨w.heap.size, 0, none⟩ = some (.int .i64 obk) ∧ W.cell? ⟨w.heap.size, 1, none⟩ = some (.bool ow) ∧ W.cell? ⟨w.heap.size, 2, none⟩ = some (.int .i64 ov)) (first | assumption | (refine AA.out _ ?_; (repeat (first | with_reducible exact Chg.refl _ _ | with_reducible exact chg0 | with_reducible refine Chg.drewN ?_ _ | with_reducible refine Chg.drew ?_ | with_reducible refine Chg.alloc ?_ _ | with_reducible refine Chg.setCell ?_ _ _ (by first | (simp; done) | omega | (simp; omega)) | with_reducible refine Chg.setBlock ?_ _ _ (by first | (simp; done) | omega | (simp; omega)) | exact Chg.refl _ _)); done) | (refine keep3 (S := fun j => w.heap.size < j) ?_ (Nat.lt_irrefl _) (by assumption); (repeat (first | with_reducible exact Chg.refl _ _ | with_reducible exact chg0 | with_reducible refine Chg.drewN ?_ _ | with_reducible refine Chg.drew ?_ | with_reducible refine Chg.alloc ?_ _ | with_reducible refine Chg.setCell ?_ _ _ (by first | (simp; done) | omega | (simp; omega)) | with_reducible refine Chg.setBlock ?_ _ _ (by first | (simp; done) | omega | (simp; omega)) | exact Chg.refl _ _)); done) | (refine keep3 (S := fun j => w.heap.size < j) ?_ (Nat.lt_irrefl _) hx3; (repeat (first | with_reducible exact Chg.refl _ _ | with_reducible exact chg0 | with_reducible refine Chg.drewN ?_ _ | with_reducible refine Chg.drew ?_ | with_reducible refine Chg.alloc ?_ _ | with_reducible refine Chg.setCell ?_ _ _ (by first | (simp; done) | omega | (simp; omega)) | with_reducible refine Chg.setBlock ?_ _ _ (by first | (simp; done) | omega | (simp; omega)) | exact Chg.refl _ _)); done) | (refine keep3 (S := fun j => w.heap.size < j) ?_ (Nat.lt_irrefl _) hx2; (repeat (first | with_reducible exact Chg.refl _ _ | with_reducible exact chg0 | with_reducible refine Chg.drewN ?_ _ | with_reducible refine Chg.drew ?_ | with_reducible refine Chg.alloc ?_ _ | with_reducible refine Chg.setCell ?_ _ _ (by first | (simp; done) | omega | (simp; omega)) | with_reducible refine Chg.setBlock ?_ _ _ (by first | (simp; done) | omega | (simp; omega)) | exact Chg.refl _ _)); done) | fail) (first
      | (go_at_call 36; refine (RefCacheAt.get obk (H.out.below (Chg.below (by repeat (first | with_reducible exact Chg.refl _ _ | with_reducible exact chg0 | with_reducible refine Chg.drewN ?_ _ | with_reducible refine Chg.drew ?_ | with_reducible refine Chg.alloc ?_ _ | with_reducible refine Chg.setCell ?_ _ _ (by first | (simp; done) | omega | (simp; omega)) | with_reducible refine Chg.setBlock ?_ _ _ (by first | (simp; done) | omega | (simp; omega)) | exact Chg.refl _ _))))).mono ?_; rintro e w2 ⟨rfl, hb2⟩; simp only [Bundle.val, Bundle.cells]; have hx2 := keep3 (S := fun _ => False) (Chg.of_below hb2) (fun h => h) (by first | assumption | (refine AA.out _ ?_; (repeat (first | with_reducible exact Chg.refl _ _ | with_reducible exact chg0 | with_reducible refine Chg.drewN ?_ _ | with_reducible refine Chg.drew ?_ | with_reducible refine Chg.alloc ?_ _ | with_reducible refine Chg.setCell ?_ _ _ (by first | (simp; done) | omega | (simp; omega)) | with_reducible refine Chg.setBlock ?_ _ _ (by first | (simp; done) | omega | (simp; omega)) | exact Chg.refl _ _)); done) | fail); have chg0 : Chg (fun _ => False) w w2 := Chg.of_below (below_trans (Chg.below (by repeat (first | with_reducible exact Chg.refl _ _ | with_reducible exact chg0 | with_reducible refine Chg.drewN ?_ _ | with_reducible refine Chg.drew ?_ | with_reducible refine Chg.alloc ?_ _ | with_reducible refine Chg.setCell ?_ _ _ (by first | (simp; done) | omega | (simp; omega)) | with_reducible refine Chg.setBlock ?_ _ _ (by first | (simp; done) | omega | (simp; omega)) | exact Chg.refl _ _))) hb2); have lw2 := World.block_lt_of_cell? w2 _ hx2.1; simp only at lw2; (try (have q2 := ob_step (b := (w.heap.size + 1)) hb2 (ob_alloc2 w _ _); obtain ⟨q20, q21, q22, q23, q2f⟩ := ob_cells4 q2; have q2l := ob_lt q2)); clear hb2)
      | (go_at_call 63; refine (HD.out _).mono ?_; rintro e w3 ⟨rfl, hb3⟩; simp only [Bundle.val, Bundle.cells]; have hx3 := keep3 (S := fun _ => False) (Chg.of_below hb3) (fun h => h) (by first | assumption | (refine AA.out _ ?_; (repeat (first | with_reducible exact Chg.refl _ _ | with_reducible exact chg0 | with_reducible refine Chg.drewN ?_ _ | with_reducible refine Chg.drew ?_ | with_reducible refine Chg.alloc ?_ _ | with_reducible refine Chg.setCell ?_ _ _ (by first | (simp; done) | omega | (simp; omega)) | with_reducible refine Chg.setBlock ?_ _ _ (by first | (simp; done) | omega | (simp; omega)) | exact Chg.refl _ _)); done) | fail); have chg1 : Chg (fun _ => False) w w3 := Chg.of_below (below_trans (Chg.below (by repeat (first | with_reducible exact Chg.refl _ _ | with_reducible exact chg0 | with_reducible refine Chg.drewN ?_ _ | with_reducible refine Chg.drew ?_ | with_reducible refine Chg.alloc ?_ _ | with_reducible refine Chg.setCell ?_ _ _ (by first | (simp; done) | omega | (simp; omega)) | with_reducible refine Chg.setBlock ?_ _ _ (by first | (simp; done) | omega | (simp; omega)) | exact Chg.refl _ _))) hb3); replace chg0 := chg1; have lw3 := World.block_lt_of_cell? w3 _ hx3.1; simp only at lw3; (try (have q3 := ob_step (b := (w.heap.size + 1)) hb3 q2; obtain ⟨q30, q31, q32, q33, q3f⟩ := ob_cells4 q3; have q3l := ob_lt q3)); (try (have q4 := ob_step (b := w2.heap.size) hb3 (ob_alloc_at w2 _); obtain ⟨q40, q41, q42, q43, q4f⟩ := ob_cells4 q4; have q4l := ob_lt q4)); clear hb3))
    all_goals
      go_wp2_with fail
      go_ret2
      rw [HCD.out]
      exact ⟨rfl, F, H.out.chg (S := fun _ => False) (by repeat (first | with_reducible exact Chg.refl _ _ | with_reducible exact chg0 | with_reducible refine Chg.drewN ?_ _ | with_reducible refine Chg.drew ?_ | with_reducible refine Chg.alloc ?_ _ | with_reducible refine Chg.setCell ?_ _ _ (by first | (simp; done) | omega | (simp; omega)) | with_reducible refine Chg.setBlock ?_ _ _ (by first | (simp; done) | omega | (simp; omega)) | exact Chg.refl _ _)) (fun _ _ h => h), Moves.none (by repeat (first | with_reducible exact Chg.refl _ _ | with_reducible exact chg0 | with_reducible refine Chg.drewN ?_ _ | with_reducible refine Chg.drew ?_ | with_reducible refine Chg.alloc ?_ _ | with_reducible refine Chg.setCell ?_ _ _ (by first | (simp; done) | omega | (simp; omega)) | with_reducible refine Chg.setBlock ?_ _ _ (by first | (simp; done) | omega | (simp; omega)) | exact Chg.refl _ _))⟩
  case true =>
    simp only [Bool.false_eq_true, if_false, if_true] at HD HCD
    go_region_held3 (fun W => W.cell? ⟨w.heap.size, 0, none⟩ = some (.int .i64 obk) ∧ W.cell? ⟨w.heap.size, 1, none⟩ = some (.bool ow) ∧ W.cell? ⟨w.heap.size, 2, none⟩ = some (.int .i64 ov)) (first | assumption | (refine AA.out _ ?_; (repeat (first | with_reducible exact Chg.refl _ _ | with_reducible exact chg0 | with_reducible refine Chg.drewN ?_ _ | with_reducible refine Chg.drew ?_ | with_reducible refine Chg.alloc ?_ _ | with_reducible refine Chg.setCell ?_ _ _ (by first | (simp; done) | omega | (simp; omega)) | with_reducible refine Chg.setBlock ?_ _ _ (by first | (simp; done) | omega | (simp; omega)) | exact Chg.refl _ _)); done) | (refine keep3 (S := fun j => w.heap.size < j) ?_ (Nat.lt_irrefl _) (by assumption); (repeat (first | with_reducible exact Chg.refl _ _ | with_reducible exact chg0 | with_reducible refine Chg.drewN ?_ _ | with_reducible refine Chg.drew ?_ | with_reducible refine Chg.alloc ?_ _ | with_reducible refine Chg.setCell ?_ _ _ (by first | (simp; done) | omega | (simp; omega)) | with_reducible refine Chg.setBlock ?_ _ _ (by first | (simp; done) | omega | (simp; omega)) | exact Chg.refl _ _)); done) | (refine keep3 (S := fun j => w.heap.size < j) ?_ (Nat.lt_irrefl _) hx3; (repeat (first | with_reducible exact Chg.refl _ _ | with_reducible exact chg0 | with_reducible refine Chg.drewN ?_ _ | with_reducible refine Chg.drew ?_ | with_reducible refine Chg.alloc ?_ _ | with_reducible refine Chg.setCell ?_ _ _ (by first | (simp; done) | omega | (simp; omega)) | with_reducible refine Chg.setBlock ?_ _ _ (by first | (simp; done) | omega | (simp; omega)) | exact Chg.refl _ _)); done) | (refine keep3 (S := fun j => w.heap.size < j) ?_ (Nat.lt_irrefl _) hx2; (repeat (first | with_reducible exact Chg.refl _ _ | with_reducible exact chg0 | with_reducible refine Chg.drewN ?_ _ | with_reducible refine Chg.drew ?_ | with_reducible refine Chg.alloc ?_ _ | with_reducible refine Chg.setCell ?_ _ _ (by first | (simp; done) | omega | (simp; omega)) | with_reducible refine Chg.setBlock ?_ _ _ (by first | (simp; done) | omega | (simp; omega)) | exact Chg.refl _ _)); done) | fail) (first
      | (go_at_call 36; refine (RefCacheAt.get obk (H.out.below (Chg.below (by repeat (first | with_reducible exact Chg.refl _ _ | with_reducible exact chg0 | with_reducible refine Chg.drewN ?_ _ | with_reducible refine Chg.drew ?_ | with_reducible refine Chg.alloc ?_ _ | with_reducible refine Chg.setCell ?_ _ _ (by first | (simp; done) | omega | (simp; omega)) | with_reducible refine Chg.setBlock ?_ _ _ (by first | (simp; done) | omega | (simp; omega)) | exact Chg.refl _ _))))).mono ?_; rintro e w2 ⟨rfl, hb2⟩; simp only [Bundle.val, Bundle.cells]; have hx2 := keep3 (S := fun _ => False) (Chg.of_below hb2) (fun h => h) (by first | assumption | (refine AA.out _ ?_; (repeat (first | with_reducible exact Chg.refl _ _ | with_reducible exact chg0 | with_reducible refine Chg.drewN ?_ _ | with_reducible refine Chg.drew ?_ | with_reducible refine Chg.alloc ?_ _ | with_reducible refine Chg.setCell ?_ _ _ (by first | (simp; done) | omega | (simp; omega)) | with_reducible refine Chg.setBlock ?_ _ _ (by first | (simp; done) | omega | (simp; omega)) | exact Chg.refl _ _)); done) | fail); have chg0 : Chg (fun _ => False) w w2 := Chg.of_below (below_trans (Chg.below (by repeat (first | with_reducible exact Chg.refl _ _ | with_reducible exact chg0 | with_reducible refine Chg.drewN ?_ _ | with_reducible refine Chg.drew ?_ | with_reducible refine Chg.alloc ?_ _ | with_reducible refine Chg.setCell ?_ _ _ (by first | (simp; done) | omega | (simp; omega)) | with_reducible refine Chg.setBlock ?_ _ _ (by first | (simp; done) | omega | (simp; omega)) | exact Chg.refl _ _))) hb2); have lw2 := World.block_lt_of_cell? w2 _ hx2.1; simp only at lw2; (try (have q2 := ob_step (b := (w.heap.size + 1)) hb2 (ob_alloc2 w _ _); obtain ⟨q20, q21, q22, q23, q2f⟩ := ob_cells4 q2; have q2l := ob_lt q2)); clear hb2)
      | (go_at_call 63; refine (HD.out _).mono ?_; rintro e w3 ⟨rfl, hb3⟩; simp only [Bundle.val, Bundle.cells]; have hx3 := keep3 (S := fun _ => False) (Chg.of_below hb3) (fun h => h) (by first | assumption | (refine AA.out _ ?_; (repeat (first | with_reducible exact Chg.refl _ _ | with_reducible exact chg0 | with_reducible refine Chg.drewN ?_ _ | with_reducible refine Chg.drew ?_ | with_reducible refine Chg.alloc ?_ _ | with_reducible refine Chg.setCell ?_ _ _ (by first | (simp; done) | omega | (simp; omega)) | with_reducible refine Chg.setBlock ?_ _ _ (by first | (simp; done) | omega | (simp; omega)) | exact Chg.refl _ _)); done) | fail); have chg1 : Chg (fun _ => False) w w3 := Chg.of_below (below_trans (Chg.below (by repeat (first | with_reducible exact Chg.refl _ _ | with_reducible exact chg0 | with_reducible refine Chg.drewN ?_ _ | with_reducible refine Chg.drew ?_ | with_reducible refine Chg.alloc ?_ _ | with_reducible refine Chg.setCell ?_ _ _ (by first | (simp; done) | omega | (simp; omega)) | with_reducible refine Chg.setBlock ?_ _ _ (by first | (simp; done) | omega | (simp; omega)) | exact Chg.refl _ _))) hb3); replace chg0 := chg1; have lw3 := World.block_lt_of_cell? w3 _ hx3.1; simp only at lw3; (try (have q3 := ob_step (b := (w.heap.size + 1)) hb3 q2; obtain ⟨q30, q31, q32, q33, q3f⟩ := ob_cells4 q3; have q3l := ob_lt q3)); (try (have q4 := ob_step (b := w2.heap.size) hb3 (ob_alloc_at w2 _); obtain ⟨q40, q41, q42, q43, q4f⟩ := ob_cells4 q4; have q4l := ob_lt q4)); clear hb3))
    all_goals
      go_wp2_with fail
      refine (RefCacheAt.set obk _ (H.out.chg (S := fun _ => False) (by repeat (first | with_reducible exact Chg.refl _ _ | with_reducible exact chg0 | with_reducible refine Chg.drewN ?_ _ | with_reducible refine Chg.drew ?_ | with_reducible refine Chg.alloc ?_ _ | with_reducible refine Chg.setCell ?_ _ _ (by first | (simp; done) | omega | (simp; omega)) | with_reducible refine Chg.setBlock ?_ _ _ (by first | (simp; done) | omega | (simp; omega)) | exact Chg.refl _ _)) (fun _ _ h => h)) (Bundle.done_good (OK.out.good obk) _ (HMI.out.1 trivial).2.1) (fun _ => (OK.out.mem obk).2 (by have := (HMI.out.1 trivial).1; omega))).mono ?_
      rintro e w5 ⟨rfl, F5, h5, m5⟩
      have hF0 : ∀ j, F j → j ≠ w.heap.size := fun j hj => by have := HFl.out j hj; omega
      have j0 : w5.cell? ⟨w.heap.size, 0, none⟩ = some (.int .i64 obk) := m5.chg.cell (by simp [go_sem, *]) (fun h => hF0 _ h rfl)
      have H5 := Lib.hid h5
      have M5 := Lib.hid ((Moves.none (by exact (show Chg (fun _ => False) w _ from by (repeat (first | with_reducible exact Chg.refl _ _ | with_reducible exact chg0 | with_reducible refine Chg.drewN ?_ _ | with_reducible refine Chg.drew ?_ | with_reducible refine Chg.alloc ?_ _ | with_reducible refine Chg.setCell ?_ _ _ (by first | (simp; done) | omega | (simp; omega)) | with_reducible refine Chg.setBlock ?_ _ _ (by first | (simp; done) | omega | (simp; omega)) | exact Chg.refl _ _))))).trans m5)
      obtain ⟨lp, D, r, ht, ok⟩ := H5.out
      have k0 := r.cell.1
      have lpw := r.lt r.cell.2
      have R5 := Lib.hid r
      have HT5 := Lib.hid ht
      have OK5 := Lib.hid ok
      have lj := World.block_lt_of_cell? w5 _ j0
      clear h5 m5 r ht ok
      go_wp2_with fail
      go_still_tail 6, (by kernel_rfl)
      go_wp2_with fail
      refine (RcAt.use obk (R5.out.below (Chg.below (by repeat (first | with_reducible exact Chg.refl _ _ | with_reducible exact chg0 | with_reducible refine Chg.drewN ?_ _ | with_reducible refine Chg.drew ?_ | with_reducible refine Chg.alloc ?_ _ | with_reducible refine Chg.setCell ?_ _ _ (by first | (simp; done) | omega | (simp; omega)) | with_reducible refine Chg.setBlock ?_ _ _ (by first | (simp; done) | omega | (simp; omega)) | exact Chg.refl _ _))))).mono ?_
      rintro e w6 ⟨rfl, F6, h6, m6⟩
      have H6 := Lib.hid h6
      have M6 := Lib.hid (M5.out.trans ((Moves.none (by repeat (first | with_reducible exact Chg.refl _ _ | with_reducible exact chg0 | with_reducible refine Chg.drewN ?_ _ | with_reducible refine Chg.drew ?_ | with_reducible refine Chg.alloc ?_ _ | with_reducible refine Chg.setCell ?_ _ _ (by first | (simp; done) | omega | (simp; omega)) | with_reducible refine Chg.setBlock ?_ _ _ (by first | (simp; done) | omega | (simp; omega)) | exact Chg.refl _ _))).trans m6))
      clear h6 m6
      go_wp2_with fail
      go_ret2
      rw [HCD.out]
      exact ⟨rfl, F6, ⟨lp, D, H6.out, HT5.out, CacheM.use_ok OK5.out _⟩, M6.out⟩
end
end Go.Proofs.Ytocnhmakgbdbfaa
