/-
  The document's cache: Absorb.
-/
import Derived.Test.YtocnhmakgbdbfaaCaR
import Derived.Test.YtocnhmakgbdbfaaCa3
import Derived.BigRegion
import Derived.Deep.RegionHeld3
namespace Go.Proofs.Ytocnhmakgbdbfaa
open Go.RowKit Go.Sort Go.ChangeShapes Go.WideShapes Go.ChangeAt
open Go.ChangeMaps (setBlock)
set_option linter.unusedVariables false
set_option linter.unusedSimpArgs false

theorem keep4 {S : Nat → Prop} {w w' : World} {k : Nat} {a b c d : Value} (hc : Chg S w w') (hn : ¬ S k) (h : w.cell? ⟨k, 0, none⟩ = some a ∧ w.cell? ⟨k, 1, none⟩ = some b ∧ w.cell? ⟨k, 2, none⟩ = some c ∧ w.cell? ⟨k, 3, none⟩ = some d) :
    w'.cell? ⟨k, 0, none⟩ = some a ∧ w'.cell? ⟨k, 1, none⟩ = some b ∧ w'.cell? ⟨k, 2, none⟩ = some c ∧ w'.cell? ⟨k, 3, none⟩ = some d :=
  ⟨hc.cell h.1 hn, hc.cell h.2.1 hn, hc.cell h.2.2.1 hn, hc.cell h.2.2.2 hn⟩
theorem Moves.fin {S : Nat → Prop} {w W0 w4 wf : World} {F F4 : Nat → Prop} (h0 : Chg (fun _ => False) w W0) (m : Moves W0 w4 F F4) (ho : Chg S w4 wf) (hS : ∀ j, S j → w.heap.size ≤ j) : Moves w wf F F4 :=
  ⟨((h0.mono fun _ _ h => h.elim).trans m.chg fun _ _ h => h).trans ho fun j hj hs => absurd hj (Nat.not_lt.2 (hS j hs)), fun j hj => (m.fresh j hj).imp id fun h => Nat.le_trans h0.size h⟩
theorem Moves.own {S : Nat → Prop} {W0 w4 wf : World} {F F4 : Nat → Prop} (m : Moves W0 w4 F F4) (ho : Chg S w4 wf) (hS : ∀ j, S j → W0.heap.size ≤ j) : Moves W0 wf F F4 :=
  Moves.fin (Chg.refl _ _) m ho hS
theorem nf_base {W0 : World} {n k3 : Nat} {F F1 : Nat → Prop} (hf : ∀ j, F1 j → F j ∨ W0.heap.size ≤ j) (h0 : ∀ j, F j → j ≠ n ∧ j ≠ n + 1) (hl : ∀ j, F1 j → j < k3) (hs : n + 1 < W0.heap.size) : ∀ j, j = n ∨ j = n + 1 ∨ j = k3 → ¬ F1 j := by
  rintro j hj h1
  have h2 := hl j h1
  rcases hf j h1 with h | h
  · have := h0 j h
    omega
  · omega
theorem nf_step {W : World} {k1 k2 k3 : Nat} {F F' : Nat → Prop} (h : ∀ j, j = k1 ∨ j = k2 ∨ j = k3 → ¬ F j) (hf : ∀ j, F' j → F j ∨ W.heap.size ≤ j) (h1 : k1 < W.heap.size) (h2 : k2 < W.heap.size) (h3 : k3 < W.heap.size) : ∀ j, j = k1 ∨ j = k2 ∨ j = k3 → ¬ F' j := by
  rintro j hj hf'
  rcases hf j hf' with h' | h'
  · exact h j hj h'
  · omega
def RefCacheAt (w : World) (p : Nat) (c : CacheM) (F : Nat → Prop) : Prop := ∃ lp D, RcAt w p lp c.lines D F ∧ Toks c.tok D ∧ c.Ok
section
variable {w w' : World} {p : Nat} {c : CacheM} {F : Nat → Prop}
theorem RefCacheAt.ok (h : RefCacheAt w p c F) : c.Ok := by obtain ⟨_, _, _, _, h⟩ := h; exact h
theorem RefCacheAt.lt (h : RefCacheAt w p c F) {j : Nat} (hj : F j) : j < w.heap.size := by obtain ⟨_, _, h, _⟩ := h; exact h.lt hj
theorem RefCacheAt.chg {S : Nat → Prop} (h : RefCacheAt w p c F) (hc : Chg S w w') (hn : ∀ j, F j → ¬ S j) : RefCacheAt w' p c F := by
  obtain ⟨lp, D, h1, h2, h3⟩ := h
  exact ⟨lp, D, h1.chg hc hn, h2, h3⟩
theorem RefCacheAt.below (h : RefCacheAt w p c F) (hb : Below w.heap.size w w') : RefCacheAt w' p c F := h.chg (S := fun _ => False) (Chg.of_below hb) fun _ _ h => h

set_option maxHeartbeats 8000000 in
set_option maxRecDepth 20000 in
theorem RefAbsorb_calls (block : Int) (b : Bundle) (pinned : Int) (h : RefCacheAt w p c F) (g : b.Good) (hb : (c.tok block).count + b.count ≤ 1000000000000) :
    Calls Try.prog 32 #[.pointer (some ⟨p, 0, none⟩), .int .i64 block, b.val, .int .i64 pinned] w fun e w' =>
      e = .returned (.tuple #[(c.absorb block b pinned).2.1.val, .bool (c.absorb block b pinned).2.2]) ∧ ∃ F', RefCacheAt w' p (c.absorb block b pinned).1 F' ∧ Moves w w' F F' := by
  have ok := h.ok
  have oka := CacheM.absorb_ok ok block g pinned
  have hnone : ∀ w', Chg (fun _ => False) w w' → ∃ F', RefCacheAt w' p c F' ∧ Moves w w' F F' := fun w' hc => ⟨F, h.chg hc (fun _ _ h => h), Moves.none hc⟩
  have HN := Lib.hid hnone
  have hab : c.absorb block b pinned = if b.count < 1 then (c, Line.none, false) else if c.lines.has block = true then ((c.use block).set block ((c.tok block).join b), Line.none, false)
    else if (c.lines.victim block pinned).2 = false then (c, ⟨block, b⟩, true)
    else if c.lines.has (c.lines.victim block pinned).1 = true then ((c.set (c.lines.victim block pinned).1 Bundle.none).lay block b, ⟨(c.lines.victim block pinned).1, c.tok (c.lines.victim block pinned).1⟩, true)
    else (c.lay block b, Line.none, false) := rfl
  obtain ⟨cc, hcc⟩ : ∃ x, x = c.absorb block b pinned := ⟨_, rfl⟩
  rw [← hcc] at hab oka ⊢
  have HAB := Lib.hid hab
  have OKA := Lib.hid oka
  have HFl := Lib.hid (fun j (hj : F j) => h.lt hj)
  obtain ⟨lp, D, r, ht, _⟩ := h
  have c0 := r.cell.1
  have hFp := r.cell.2
  have lp' := r.lt hFp
  have hlen : D.length ≤ 1024 := Toks.few ht ok
  have R := Lib.hid r
  have HT := Lib.hid ht
  have OK := Lib.hid ok
  have G := Lib.hid g
  clear r ht ok hab oka hnone hcc
  by_cases q1 : b.count < 1
  · have q1' : decide (b.count < 1) = true := by simpa using q1
    rw [if_pos q1] at HAB
    clear g
    simp only [Bundle.val, Bundle.cells, Line.val, Line.cells]
    go_enter Try.func32, Try.ntmps32
    go_wp2_with fail
    (try (go_big_region; go_wp2_with fail))
    (try simp only [Exit.inBlock, Exit.then])
    refine bodyRet2 _ _ rfl rfl (ResIs.row Try.underlying53 rfl (by kernel_rfl) rfl (by simp [go_sem]; exact ⟨rfl, rfl, rfl⟩)) ResIs.tmp ?_
    rw [HAB.out]
    exact ⟨rfl, HN.out _ (by repeat (first | with_reducible exact Chg.refl _ _ | with_reducible exact chg0 | with_reducible refine Chg.drewN ?_ _ | with_reducible refine Chg.drew ?_ | with_reducible refine Chg.alloc ?_ _ | with_reducible refine Chg.setCell ?_ _ _ (by first | (simp; done) | omega | (simp; omega)) | with_reducible refine Chg.setBlock ?_ _ _ (by first | (simp; done) | omega | (simp; omega)) | exact Chg.refl _ _))⟩
  have q1' : decide (b.count < 1) = false := by simpa using q1
  have Q1 := Lib.hid q1
  rw [if_neg q1] at HAB
  clear q1 g
  simp only [Bundle.val, Bundle.cells, Line.val, Line.cells]
  go_enter Try.func32, Try.ntmps32
  go_wp2_with fail
  refine (RcAt.use block (R.out.below (Chg.below (by repeat (first | with_reducible exact Chg.refl _ _ | with_reducible exact chg0 | with_reducible refine Chg.drewN ?_ _ | with_reducible refine Chg.drew ?_ | with_reducible refine Chg.alloc ?_ _ | with_reducible refine Chg.setCell ?_ _ _ (by first | (simp; done) | omega | (simp; omega)) | with_reducible refine Chg.setBlock ?_ _ _ (by first | (simp; done) | omega | (simp; omega)) | exact Chg.refl _ _))))).mono ?_
  rintro e w1 ⟨rfl, F1, hr1, hm1⟩
  have hF0 : ∀ j, F j → j ≠ w.heap.size ∧ j ≠ w.heap.size + 1 := fun j hj => by have := HFl.out j hj; omega
  have o0 : ob w1 w.heap.size = some (.cells #[.int .i64 b.count, .bool b.owner, .bool b.has, .int .i64 b.data] 47 (0, 0)) := hm1.chg.ob (by simp [go_sem]) (fun h => (hF0 _ h).1 rfl)
  have o1 : ob w1 (w.heap.size + 1) = some (.cells #[.int .i64 0, .int .i64 0, .bool false, .bool false, .int .i64 0] 53 (0, 0)) := hm1.chg.ob (by simp [go_sem]) (fun h => (hF0 _ h).2 rfl)
  obtain ⟨a0, a1, a2, a3, af⟩ := ob_cells4 o0
  obtain ⟨b0, b1, b2, b3, b4, bf⟩ := ob_cells5 o1
  have l0 := ob_lt o0
  have l1 := ob_lt o1
  have k0 := hr1.cell.1
  have R1 := Lib.hid hr1
  have M1 := Lib.hid hm1
  have HF0 := Lib.hid hF0
  clear hr1 hm1 hF0
  cases hh : c.lines.has block with
  | true =>
    rw [if_pos hh] at HAB
    have hpos : 0 < ((c.tok block).join b).count := by
      have h1 := (OK.out.good block).pos
      have h2 := Q1.out
      show 0 < (c.tok block).count + b.count
      omega
    have HPOS := Lib.hid hpos
    have hpo2 : (if 0 < ((c.tok block).join b).count then c.lines.use block else (c.lines.use block).rem block) = c.lines.use block := if_pos hpos
    have HP2 := Lib.hid hpo2
    have hlk := HT.out.look OK.out.good block
    have HLK := Lib.hid hlk
    clear hpos hpo2 hlk
    have AA := Lib.hid (And.intro a0 (And.intro a1 (And.intro a2 a3)))
    go_wp2_with fail
    go_region_held3 (fun W => W.cell? ⟨w.heap.size, 0, none⟩ = some (.int .i64 b.count) ∧ W.cell? ⟨w.heap.size, 1, none⟩ = some (.bool b.owner) ∧ W.cell? ⟨w.heap.size, 2, none⟩ = some (.bool b.has) ∧ W.cell? ⟨w.heap.size, 3, none⟩ = some (.int .i64 b.data)) (first | assumption | exact AA.out) (first
      | (go_at_call 36; refine (RefGet_calls block (R1.out.below (Chg.below (by repeat (first | with_reducible exact Chg.refl _ _ | with_reducible exact chg0 | with_reducible refine Chg.drewN ?_ _ | with_reducible refine Chg.drew ?_ | with_reducible refine Chg.alloc ?_ _ | with_reducible refine Chg.setCell ?_ _ _ (by first | (simp; done) | omega | (simp; omega)) | with_reducible refine Chg.setBlock ?_ _ _ (by first | (simp; done) | omega | (simp; omega)) | exact Chg.refl _ _))))).mono ?_; rintro e w2 ⟨rfl, hb2⟩; rw [HLK.out]; simp only [Bundle.val, Bundle.cells]; have hx2 := keep4 (S := fun _ => False) (Chg.of_below hb2) (fun h => h) (by first | assumption | exact AA.out); have chg0 : Chg (fun _ => False) w1 w2 := Chg.of_below (below_trans (Chg.below (by repeat (first | with_reducible exact Chg.refl _ _ | with_reducible exact chg0 | with_reducible refine Chg.drewN ?_ _ | with_reducible refine Chg.drew ?_ | with_reducible refine Chg.alloc ?_ _ | with_reducible refine Chg.setCell ?_ _ _ (by first | (simp; done) | omega | (simp; omega)) | with_reducible refine Chg.setBlock ?_ _ _ (by first | (simp; done) | omega | (simp; omega)) | exact Chg.refl _ _))) hb2); clear hb2)
      | (go_at_call 58; refine (RefJoin_calls (c.tok block) b _ (OK.out.good block) (by have := G.out.pos; omega) (by have := (OK.out.good block).pos; omega) G.out.pos).mono ?_; rintro e w3 ⟨rfl, hb3⟩; simp only [Bundle.val, Bundle.cells]; have hx3 := keep4 (S := fun _ => False) (Chg.of_below hb3) (fun h => h) (by first | assumption | exact AA.out); have chg1 : Chg (fun _ => False) w1 w3 := Chg.of_below (below_trans (Chg.below (by repeat (first | with_reducible exact Chg.refl _ _ | with_reducible exact chg0 | with_reducible refine Chg.drewN ?_ _ | with_reducible refine Chg.drew ?_ | with_reducible refine Chg.alloc ?_ _ | with_reducible refine Chg.setCell ?_ _ _ (by first | (simp; done) | omega | (simp; omega)) | with_reducible refine Chg.setBlock ?_ _ _ (by first | (simp; done) | omega | (simp; omega)) | exact Chg.refl _ _))) hb3); replace chg0 := chg1; clear hb3)
      | (go_at_call 57; refine (RefSet_calls block ((c.tok block).join b) (R1.out.below (Chg.below (by repeat (first | with_reducible exact Chg.refl _ _ | with_reducible exact chg0 | with_reducible refine Chg.drewN ?_ _ | with_reducible refine Chg.drew ?_ | with_reducible refine Chg.alloc ?_ _ | with_reducible refine Chg.setCell ?_ _ _ (by first | (simp; done) | omega | (simp; omega)) | with_reducible refine Chg.setBlock ?_ _ _ (by first | (simp; done) | omega | (simp; omega)) | exact Chg.refl _ _)))) (by omega)).mono ?_; rintro e w4 ⟨rfl, F4, hr4, hm4⟩; have hx4 := keep4 hm4.chg (fun h => by rcases M1.out.fresh _ h with h | h; exact (HF0.out _ h).1 rfl; simp [go_sem] at h; omega) (by first | assumption | exact AA.out); have o1' : ob w4 (w.heap.size + 1) = some (.cells #[.int .i64 0, .int .i64 0, .bool false, .bool false, .int .i64 0] 53 (0, 0)) := hm4.chg.ob (chg0.ob o1 (fun h => h)) (fun h => by rcases M1.out.fresh _ h with h | h; exact (HF0.out _ h).2 rfl; simp [go_sem] at h; omega); have M4 := Lib.hid ((M1.out.trans (Moves.none chg0)).trans hm4)))
    all_goals
      obtain ⟨e0, e1, e2, e3, e4, ef⟩ := ob_cells5 o1'
      have l3 := ob_lt o1'
      have R4 := Lib.hid hr4
      clear hr4 hm4 hx2 hx3 hx4
      go_wp2_with fail
      (try simp only [Exit.inBlock, Exit.then])
      refine bodyRet2 _ _ rfl rfl (ResIs.row Try.underlying53 rfl (by kernel_rfl) rfl (by simp [go_sem, *]; exact ⟨rfl, rfl, rfl⟩)) ResIs.tmp ?_
      rw [HP2.out] at R4
      have e1 : cc.1.lines = c.lines.use block := by rw [HAB.out]; simp only [CacheM.set]; rw [if_pos HPOS.out]; rfl
      have e2 : cc.1.tok = fun j => if j = block then (c.tok block).join b else c.tok j := by rw [HAB.out]; rfl
      have hne : ∀ j, F4 j → ¬ j = w.heap.size + 1 := fun j hf e => by
        rcases M4.out.fresh j hf with h | h
        · exact (HF0.out j h).2 e
        · simp [go_sem] at h; omega
      have NE := Lib.hid hne
      refine ⟨by rw [HAB.out]; rfl, F4, ⟨lp, setD D block ((c.tok block).join b), by rw [e1]; exact R4.out.chg (S := fun j => j = w.heap.size + 1) (by repeat (first | with_reducible exact Chg.refl _ _ | with_reducible exact chg0 | with_reducible refine Chg.drewN ?_ _ | with_reducible refine Chg.drew ?_ | with_reducible refine Chg.alloc ?_ _ | with_reducible refine Chg.setCell ?_ _ _ (by first | (simp; done) | omega | (simp; omega)) | with_reducible refine Chg.setBlock ?_ _ _ (by first | (simp; done) | omega | (simp; omega)) | exact Chg.refl _ _)) (fun j hf e => NE.out j hf e), by rw [e2]; exact HT.out.set block _, OKA.out⟩, Moves.fin (by repeat (first | with_reducible exact Chg.refl _ _ | with_reducible exact chg0 | with_reducible refine Chg.drewN ?_ _ | with_reducible refine Chg.drew ?_ | with_reducible refine Chg.alloc ?_ _ | with_reducible refine Chg.setCell ?_ _ _ (by first | (simp; done) | omega | (simp; omega)) | with_reducible refine Chg.setBlock ?_ _ _ (by first | (simp; done) | omega | (simp; omega)) | exact Chg.refl _ _)) M4.out (S := fun j => j = w.heap.size + 1) (by repeat (first | with_reducible exact Chg.refl _ _ | with_reducible exact chg0 | with_reducible refine Chg.drewN ?_ _ | with_reducible refine Chg.drew ?_ | with_reducible refine Chg.alloc ?_ _ | with_reducible refine Chg.setCell ?_ _ _ (by first | (simp; done) | omega | (simp; omega)) | with_reducible refine Chg.setBlock ?_ _ _ (by first | (simp; done) | omega | (simp; omega)) | exact Chg.refl _ _)) (fun j e => by omega)⟩
  | false =>
    have hus : c.lines.use block = c.lines := by rw [Lines.use, if_neg (by simp [hh])]
    rw [hus] at R1
    rw [if_neg (by simp [hh])] at HAB
    obtain ⟨v, hv⟩ : ∃ v, v = (c.lines.victim block pinned).1 := ⟨_, rfl⟩
    obtain ⟨vo, hvo⟩ : ∃ v, v = (c.lines.victim block pinned).2 := ⟨_, rfl⟩
    have HVV := Lib.hid hv
    have HVO := Lib.hid hvo
    rw [← hv, ← hvo] at HAB
    go_wp2_with fail
    refine (RcAt.victim block pinned (R1.out.below (Chg.below (by repeat (first | with_reducible exact Chg.refl _ _ | with_reducible exact chg0 | with_reducible refine Chg.drewN ?_ _ | with_reducible refine Chg.drew ?_ | with_reducible refine Chg.alloc ?_ _ | with_reducible refine Chg.setCell ?_ _ _ (by first | (simp; done) | omega | (simp; omega)) | with_reducible refine Chg.setBlock ?_ _ _ (by first | (simp; done) | omega | (simp; omega)) | exact Chg.refl _ _))))).mono ?_
    rintro e w2 ⟨rfl, hb2⟩
    rw [← hv, ← hvo]
    clear hv hvo
    have ch2 : Chg (fun _ => False) w1 w2 := Chg.of_below (below_trans (Chg.below (by repeat (first | with_reducible exact Chg.refl _ _ | with_reducible exact chg0 | with_reducible refine Chg.drewN ?_ _ | with_reducible refine Chg.drew ?_ | with_reducible refine Chg.alloc ?_ _ | with_reducible refine Chg.setCell ?_ _ _ (by first | (simp; done) | omega | (simp; omega)) | with_reducible refine Chg.setBlock ?_ _ _ (by first | (simp; done) | omega | (simp; omega)) | exact Chg.refl _ _))) hb2)
    have M2 := Lib.hid (M1.out.trans (Moves.none ch2))
    have R2 := Lib.hid (R1.out.chg ch2 (fun _ _ h => h))
    replace o0 := ch2.ob o0 (fun h => h)
    replace o1 := ch2.ob o1 (fun h => h)
    clear a0 a1 a2 a3 af b0 b1 b2 b3 b4 bf l0 l1
    obtain ⟨a0, a1, a2, a3, af⟩ := ob_cells4 o0
    obtain ⟨b0, b1, b2, b3, b4, bf⟩ := ob_cells5 o1
    have l0 := ob_lt o0
    have l1 := ob_lt o1
    replace k0 := R2.out.cell.1
    have lpw := R2.out.lt R2.out.cell.2
    have sz2 := M2.out.chg.size
    simp [go_sem] at sz2
    clear ch2 hb2 M1 R1
    cases vo with
    | false =>
      rw [if_pos rfl] at HAB
      go_wp2_with fail
      (try simp only [Exit.inBlock, Exit.then])
      refine bodyRet2 _ _ rfl rfl (ResIs.row Try.underlying53 rfl (by kernel_rfl) rfl (by simp [go_sem, *]; exact ⟨rfl, rfl, rfl⟩)) ResIs.tmp ?_
      have e1 : cc.1 = c := by rw [HAB.out]
      have hne : ∀ j, F1 j → ¬ j = w.heap.size + 1 := fun j hf e => by
        rcases M2.out.fresh j hf with h | h
        · exact (HF0.out j h).2 e
        · simp [go_sem] at h; omega
      have NE := Lib.hid hne
      refine ⟨by rw [HAB.out]; rfl, F1, ⟨lp, D, by rw [e1]; exact R2.out.chg (S := fun j => j = w.heap.size + 1) (by repeat (first | with_reducible exact Chg.refl _ _ | with_reducible exact chg0 | with_reducible refine Chg.drewN ?_ _ | with_reducible refine Chg.drew ?_ | with_reducible refine Chg.alloc ?_ _ | with_reducible refine Chg.setCell ?_ _ _ (by first | (simp; done) | omega | (simp; omega)) | with_reducible refine Chg.setBlock ?_ _ _ (by first | (simp; done) | omega | (simp; omega)) | exact Chg.refl _ _)) (fun j hf e => NE.out j hf e), by rw [e1]; exact HT.out, OKA.out⟩, Moves.fin (by repeat (first | with_reducible exact Chg.refl _ _ | with_reducible exact chg0 | with_reducible refine Chg.drewN ?_ _ | with_reducible refine Chg.drew ?_ | with_reducible refine Chg.alloc ?_ _ | with_reducible refine Chg.setCell ?_ _ _ (by first | (simp; done) | omega | (simp; omega)) | with_reducible refine Chg.setBlock ?_ _ _ (by first | (simp; done) | omega | (simp; omega)) | exact Chg.refl _ _)) M2.out (S := fun j => j = w.heap.size + 1) (by repeat (first | with_reducible exact Chg.refl _ _ | with_reducible exact chg0 | with_reducible refine Chg.drewN ?_ _ | with_reducible refine Chg.drew ?_ | with_reducible refine Chg.alloc ?_ _ | with_reducible refine Chg.setCell ?_ _ _ (by first | (simp; done) | omega | (simp; omega)) | with_reducible refine Chg.setBlock ?_ _ _ (by first | (simp; done) | omega | (simp; omega)) | exact Chg.refl _ _)) (fun j e => by omega)⟩
    | true =>
      rw [if_neg (by decide)] at HAB
      go_wp2_with fail
      refine (RcAt.has v (R2.out.below (Chg.below (by repeat (first | with_reducible exact Chg.refl _ _ | with_reducible exact chg0 | with_reducible refine Chg.drewN ?_ _ | with_reducible refine Chg.drew ?_ | with_reducible refine Chg.alloc ?_ _ | with_reducible refine Chg.setCell ?_ _ _ (by first | (simp; done) | omega | (simp; omega)) | with_reducible refine Chg.setBlock ?_ _ _ (by first | (simp; done) | omega | (simp; omega)) | exact Chg.refl _ _))))).mono ?_
      rintro e w3 ⟨rfl, n3, rfl⟩
      have hac := absorb_can (c := c) OK.out (pinned := pinned) hh HVO.out.symm
      rw [← HVV.out] at hac
      cases hhv : c.lines.has v with
      | true =>
        rw [if_pos hhv] at HAB
        have HLK := Lib.hid (HT.out.look OK.out.good v)
        clear hac
        go_wp2_with fail
        refine (RefGet_calls v (R2.out.below (Chg.below (by repeat (first | with_reducible exact Chg.refl _ _ | with_reducible exact chg0 | with_reducible refine Chg.drewN ?_ _ | with_reducible refine Chg.drew ?_ | with_reducible refine Chg.alloc ?_ _ | with_reducible refine Chg.setCell ?_ _ _ (by first | (simp; done) | omega | (simp; omega)) | with_reducible refine Chg.setBlock ?_ _ _ (by first | (simp; done) | omega | (simp; omega)) | exact Chg.refl _ _))))).mono ?_
        rintro e w4 ⟨rfl, hb4⟩
        rw [HLK.out]
        have o2 : ob w4 w2.heap.size = some (.cells #[.int .i64 0, .int .i64 0, .bool false, .bool false, .int .i64 0] 53 (0, 0)) := (Chg.of_below (S := fun _ => False) hb4).ob (by simp [go_sem]) (fun h => h)
        have ch4 : Chg (fun _ => False) w2 w4 := Chg.of_below (below_trans (Chg.below (by repeat (first | with_reducible exact Chg.refl _ _ | with_reducible exact chg0 | with_reducible refine Chg.drewN ?_ _ | with_reducible refine Chg.drew ?_ | with_reducible refine Chg.alloc ?_ _ | with_reducible refine Chg.setCell ?_ _ _ (by first | (simp; done) | omega | (simp; omega)) | with_reducible refine Chg.setBlock ?_ _ _ (by first | (simp; done) | omega | (simp; omega)) | exact Chg.refl _ _))) hb4)
        have M4 := Lib.hid (M2.out.trans (Moves.none ch4))
        have R4 := Lib.hid (R2.out.chg ch4 (fun _ _ h => h))
        replace o0 := ch4.ob o0 (fun h => h)
        replace o1 := ch4.ob o1 (fun h => h)
        clear a0 a1 a2 a3 af b0 b1 b2 b3 b4 bf l0 l1 lpw
        obtain ⟨a0, a1, a2, a3, af⟩ := ob_cells4 o0
        obtain ⟨b0, b1, b2, b3, b4, bf⟩ := ob_cells5 o1
        obtain ⟨d0, d1, d2, d3, d4, df⟩ := ob_cells5 o2
        have l0 := ob_lt o0
        have l1 := ob_lt o1
        have l2 := ob_lt o2
        replace k0 := R4.out.cell.1
        have lpw := R4.out.lt R4.out.cell.2
        simp only [Bundle.val, Bundle.cells]
        have nf1 : ∀ j, j = w.heap.size ∨ j = w.heap.size + 1 ∨ j = w2.heap.size → ¬ F1 j := nf_base M2.out.fresh HF0.out (fun j hj => R2.out.lt hj) (by simp)
        have NF1 := Lib.hid nf1
        have hlz := R2.out.lt R2.out.cell.2
        have hx1 : w.heap.size ≠ w2.heap.size := by omega
        have hx2 : w.heap.size + 1 ≠ w2.heap.size := by omega
        clear hb4 nf1
        go_wp2_with fail
        refine (RefSet_calls v Bundle.none (R4.out.chg (S := fun j => j = w2.heap.size) (by repeat (first | with_reducible exact Chg.refl _ _ | with_reducible exact chg0 | with_reducible refine Chg.drewN ?_ _ | with_reducible refine Chg.drew ?_ | with_reducible refine Chg.alloc ?_ _ | with_reducible refine Chg.setCell ?_ _ _ (by first | (simp; done) | omega | (simp; omega)) | with_reducible refine Chg.setBlock ?_ _ _ (by first | (simp; done) | omega | (simp; omega)) | exact Chg.refl _ _)) (fun j hf e => NF1.out j (.inr (.inr e)) hf)) (by omega)).mono ?_
        rintro e w6 ⟨rfl, F6, hr6, hm6⟩
        have M6 := Lib.hid ((M4.out.own (S := fun j => j = w2.heap.size) (by repeat (first | with_reducible exact Chg.refl _ _ | with_reducible exact chg0 | with_reducible refine Chg.drewN ?_ _ | with_reducible refine Chg.drew ?_ | with_reducible refine Chg.alloc ?_ _ | with_reducible refine Chg.setCell ?_ _ _ (by first | (simp; done) | omega | (simp; omega)) | with_reducible refine Chg.setBlock ?_ _ _ (by first | (simp; done) | omega | (simp; omega)) | exact Chg.refl _ _)) (fun j e => by first | omega | (simp; omega))).trans hm6)
        rw [if_neg CacheM.none_pos] at hr6
        have R6 := Lib.hid hr6
        have NF6 := Lib.hid (nf_step (k1 := w.heap.size) (k2 := w.heap.size + 1) (k3 := w2.heap.size) NF1.out hm6.fresh (by first | omega | (simp; omega) | simp) (by first | omega | (simp; omega) | simp) (by first | omega | (simp; omega) | simp))
        have o0' : ob w6 w.heap.size = some (.cells #[.int .i64 b.count, .bool b.owner, .bool b.has, .int .i64 b.data] 47 (0, 0)) := hm6.chg.ob (by simp [go_sem, *]) (NF1.out _ (.inl rfl))
        have o1' : ob w6 (w.heap.size + 1) = some (.cells #[.int .i64 0, .int .i64 0, .bool false, .bool false, .int .i64 0] 53 (0, 0)) := hm6.chg.ob (by simp [go_sem, *]) (NF1.out _ (.inr (.inl rfl)))
        have o2' : ob w6 w2.heap.size = some (.cells #[.int .i64 v, .int .i64 (c.tok v).count, .bool (c.tok v).owner, .bool (c.tok v).has, .int .i64 (c.tok v).data] 53 (0, 0)) := hm6.chg.ob (by simp [go_sem, o2, setAt]) (NF1.out _ (.inr (.inr rfl)))
        replace o0 := o0'
        replace o1 := o1'
        replace o2 := o2'
        clear o0' o1' o2'
        clear a0 a1 a2 a3 af b0 b1 b2 b3 b4 bf d0 d1 d2 d3 d4 df l0 l1 l2 lpw
        obtain ⟨a0, a1, a2, a3, af⟩ := ob_cells4 o0
        obtain ⟨b0, b1, b2, b3, b4, bf⟩ := ob_cells5 o1
        obtain ⟨d0, d1, d2, d3, d4, df⟩ := ob_cells5 o2
        have l0 := ob_lt o0
        have l1 := ob_lt o1
        have l2 := ob_lt o2
        replace k0 := R6.out.cell.1
        have lpw := R6.out.lt R6.out.cell.2
        have HDL := Lib.hid (show (setD D v Bundle.none).length ≤ 2000 from by have := setD_len D v Bundle.none; omega)
        clear hr6 hm6
        go_wp2_with fail
        refine (RcAt.add block (R6.out.below (Chg.below (by repeat (first | with_reducible exact Chg.refl _ _ | with_reducible exact chg0 | with_reducible refine Chg.drewN ?_ _ | with_reducible refine Chg.drew ?_ | with_reducible refine Chg.alloc ?_ _ | with_reducible refine Chg.setCell ?_ _ _ (by first | (simp; done) | omega | (simp; omega)) | with_reducible refine Chg.setBlock ?_ _ _ (by first | (simp; done) | omega | (simp; omega)) | exact Chg.refl _ _))))).mono ?_
        rintro e w7 ⟨rfl, F7, hr7, hm7⟩
        have M7 := Lib.hid (M6.out.trans ((Moves.none (by repeat (first | with_reducible exact Chg.refl _ _ | with_reducible exact chg0 | with_reducible refine Chg.drewN ?_ _ | with_reducible refine Chg.drew ?_ | with_reducible refine Chg.alloc ?_ _ | with_reducible refine Chg.setCell ?_ _ _ (by first | (simp; done) | omega | (simp; omega)) | with_reducible refine Chg.setBlock ?_ _ _ (by first | (simp; done) | omega | (simp; omega)) | exact Chg.refl _ _))).trans hm7))
        have R7 := Lib.hid hr7
        have NF7 := Lib.hid (nf_step (k1 := w.heap.size) (k2 := w.heap.size + 1) (k3 := w2.heap.size) NF6.out hm7.fresh (by first | omega | (simp; omega) | simp) (by first | omega | (simp; omega) | simp) (by first | omega | (simp; omega) | simp))
        have o0' : ob w7 w.heap.size = some (.cells #[.int .i64 b.count, .bool b.owner, .bool b.has, .int .i64 b.data] 47 (0, 0)) := hm7.chg.ob (by simp [go_sem, *]) (NF6.out _ (.inl rfl))
        have o1' : ob w7 (w.heap.size + 1) = some (.cells #[.int .i64 0, .int .i64 0, .bool false, .bool false, .int .i64 0] 53 (0, 0)) := hm7.chg.ob (by simp [go_sem, *]) (NF6.out _ (.inr (.inl rfl)))
        have o2' : ob w7 w2.heap.size = some (.cells #[.int .i64 v, .int .i64 (c.tok v).count, .bool (c.tok v).owner, .bool (c.tok v).has, .int .i64 (c.tok v).data] 53 (0, 0)) := hm7.chg.ob (by simp [go_sem, *]) (NF6.out _ (.inr (.inr rfl)))
        replace o0 := o0'
        clear o0'
        replace o1 := o1'
        clear o1'
        replace o2 := o2'
        clear o2'
        clear a0 a1 a2 a3 af b0 b1 b2 b3 b4 bf d0 d1 d2 d3 d4 df l0 l1 l2 lpw
        obtain ⟨a0, a1, a2, a3, af⟩ := ob_cells4 o0
        obtain ⟨b0, b1, b2, b3, b4, bf⟩ := ob_cells5 o1
        obtain ⟨d0, d1, d2, d3, d4, df⟩ := ob_cells5 o2
        have l0 := ob_lt o0
        have l1 := ob_lt o1
        have l2 := ob_lt o2
        replace k0 := R7.out.cell.1
        have lpw := R7.out.lt R7.out.cell.2
        generalize (c.lines.rem v).can block = r7
        clear hr7 hm7
        go_wp2_with fail
        refine (RefSet_calls block b (R7.out.below (Chg.below (by repeat (first | with_reducible exact Chg.refl _ _ | with_reducible exact chg0 | with_reducible refine Chg.drewN ?_ _ | with_reducible refine Chg.drew ?_ | with_reducible refine Chg.alloc ?_ _ | with_reducible refine Chg.setCell ?_ _ _ (by first | (simp; done) | omega | (simp; omega)) | with_reducible refine Chg.setBlock ?_ _ _ (by first | (simp; done) | omega | (simp; omega)) | exact Chg.refl _ _)))) (by have := HDL.out; omega)).mono ?_
        rintro e w8 ⟨rfl, F8, hr8, hm8⟩
        have M8 := Lib.hid (M7.out.trans ((Moves.none (by repeat (first | with_reducible exact Chg.refl _ _ | with_reducible exact chg0 | with_reducible refine Chg.drewN ?_ _ | with_reducible refine Chg.drew ?_ | with_reducible refine Chg.alloc ?_ _ | with_reducible refine Chg.setCell ?_ _ _ (by first | (simp; done) | omega | (simp; omega)) | with_reducible refine Chg.setBlock ?_ _ _ (by first | (simp; done) | omega | (simp; omega)) | exact Chg.refl _ _))).trans hm8))
        rw [if_pos (show 0 < b.count from by have := Q1.out; omega)] at hr8
        have R8 := Lib.hid hr8
        have NF8 := Lib.hid (nf_step (k1 := w.heap.size) (k2 := w.heap.size + 1) (k3 := w2.heap.size) NF7.out hm8.fresh (by first | omega | (simp; omega) | simp) (by first | omega | (simp; omega) | simp) (by first | omega | (simp; omega) | simp))
        have o0' : ob w8 w.heap.size = some (.cells #[.int .i64 b.count, .bool b.owner, .bool b.has, .int .i64 b.data] 47 (0, 0)) := hm8.chg.ob (by simp [go_sem, *]) (NF7.out _ (.inl rfl))
        have o1' : ob w8 (w.heap.size + 1) = some (.cells #[.int .i64 0, .int .i64 0, .bool false, .bool false, .int .i64 0] 53 (0, 0)) := hm8.chg.ob (by simp [go_sem, *]) (NF7.out _ (.inr (.inl rfl)))
        have o2' : ob w8 w2.heap.size = some (.cells #[.int .i64 v, .int .i64 (c.tok v).count, .bool (c.tok v).owner, .bool (c.tok v).has, .int .i64 (c.tok v).data] 53 (0, 0)) := hm8.chg.ob (by simp [go_sem, *]) (NF7.out _ (.inr (.inr rfl)))
        replace o0 := o0'
        clear o0'
        replace o1 := o1'
        clear o1'
        replace o2 := o2'
        clear o2'
        clear a0 a1 a2 a3 af b0 b1 b2 b3 b4 bf d0 d1 d2 d3 d4 df l0 l1 l2 lpw
        obtain ⟨a0, a1, a2, a3, af⟩ := ob_cells4 o0
        obtain ⟨b0, b1, b2, b3, b4, bf⟩ := ob_cells5 o1
        obtain ⟨d0, d1, d2, d3, d4, df⟩ := ob_cells5 o2
        have l0 := ob_lt o0
        have l1 := ob_lt o1
        have l2 := ob_lt o2
        clear hr8 hm8
        go_wp2_with fail
        (try (go_big_region; go_wp2_with fail))
        (try simp only [Exit.inBlock, Exit.then])
        refine bodyRet2 _ _ rfl rfl (ResIs.row Try.underlying53 rfl (by kernel_rfl) rfl (by simp [go_sem, *]; exact ⟨rfl, rfl, rfl⟩)) ResIs.tmp ?_
        have e1 : cc.1.lines = (c.lines.rem v).add block := by rw [HAB.out]; show ((c.set v Bundle.none).lines).add block = _; rw [CacheM.set_none_lines]
        have e2 : cc.1.tok = fun j => if j = block then b else (if j = v then Bundle.none else c.tok j) := by rw [HAB.out]; rfl
        refine ⟨by rw [HAB.out]; rfl, F8, ⟨lp, setD (setD D v Bundle.none) block b, by rw [e1]; exact R8.out.chg (S := fun j => j = w.heap.size + 1) (by repeat (first | with_reducible exact Chg.refl _ _ | with_reducible exact chg0 | with_reducible refine Chg.drewN ?_ _ | with_reducible refine Chg.drew ?_ | with_reducible refine Chg.alloc ?_ _ | with_reducible refine Chg.setCell ?_ _ _ (by first | (simp; done) | omega | (simp; omega)) | with_reducible refine Chg.setBlock ?_ _ _ (by first | (simp; done) | omega | (simp; omega)) | exact Chg.refl _ _)) (fun j hf e => NF8.out j (.inr (.inl e)) hf), by rw [e2]; exact (HT.out.set v Bundle.none).set block b, OKA.out⟩, Moves.fin (by repeat (first | with_reducible exact Chg.refl _ _ | with_reducible exact chg0 | with_reducible refine Chg.drewN ?_ _ | with_reducible refine Chg.drew ?_ | with_reducible refine Chg.alloc ?_ _ | with_reducible refine Chg.setCell ?_ _ _ (by first | (simp; done) | omega | (simp; omega)) | with_reducible refine Chg.setBlock ?_ _ _ (by first | (simp; done) | omega | (simp; omega)) | exact Chg.refl _ _)) M8.out (S := fun j => j = w.heap.size + 1) (by repeat (first | with_reducible exact Chg.refl _ _ | with_reducible exact chg0 | with_reducible refine Chg.drewN ?_ _ | with_reducible refine Chg.drew ?_ | with_reducible refine Chg.alloc ?_ _ | with_reducible refine Chg.setCell ?_ _ _ (by first | (simp; done) | omega | (simp; omega)) | with_reducible refine Chg.setBlock ?_ _ _ (by first | (simp; done) | omega | (simp; omega)) | exact Chg.refl _ _)) (fun j e => by omega)⟩
      | false =>
        rw [if_neg (by simp [hhv])] at HAB
        clear hac
        have hlz := R2.out.lt R2.out.cell.2
        have hx1 : w.heap.size ≠ w2.heap.size := by omega
        have hx2 : w.heap.size + 1 ≠ w2.heap.size := by omega
        have nf1 : ∀ j, j = w.heap.size ∨ j = w.heap.size + 1 ∨ j = w2.heap.size → ¬ F1 j := nf_base M2.out.fresh HF0.out (fun j hj => R2.out.lt hj) (by simp)
        have NF1 := Lib.hid nf1
        have HDL := Lib.hid (show D.length ≤ 2000 from by omega)
        clear nf1
        go_wp2_with fail
        refine (RcAt.add block (R2.out.below (Chg.below (by repeat (first | with_reducible exact Chg.refl _ _ | with_reducible exact chg0 | with_reducible refine Chg.drewN ?_ _ | with_reducible refine Chg.drew ?_ | with_reducible refine Chg.alloc ?_ _ | with_reducible refine Chg.setCell ?_ _ _ (by first | (simp; done) | omega | (simp; omega)) | with_reducible refine Chg.setBlock ?_ _ _ (by first | (simp; done) | omega | (simp; omega)) | exact Chg.refl _ _))))).mono ?_
        rintro e w7 ⟨rfl, F7, hr7, hm7⟩
        have M7 := Lib.hid (M2.out.trans ((Moves.none (by repeat (first | with_reducible exact Chg.refl _ _ | with_reducible exact chg0 | with_reducible refine Chg.drewN ?_ _ | with_reducible refine Chg.drew ?_ | with_reducible refine Chg.alloc ?_ _ | with_reducible refine Chg.setCell ?_ _ _ (by first | (simp; done) | omega | (simp; omega)) | with_reducible refine Chg.setBlock ?_ _ _ (by first | (simp; done) | omega | (simp; omega)) | exact Chg.refl _ _))).trans hm7))
        have R7 := Lib.hid hr7
        have NF7 := Lib.hid (nf_step (k1 := w.heap.size) (k2 := w.heap.size + 1) (k3 := w2.heap.size) NF1.out hm7.fresh (by first | omega | (simp; omega) | simp) (by first | omega | (simp; omega) | simp) (by first | omega | (simp; omega) | simp))
        have o0' : ob w7 w.heap.size = some (.cells #[.int .i64 b.count, .bool b.owner, .bool b.has, .int .i64 b.data] 47 (0, 0)) := hm7.chg.ob (by simp [go_sem, *]) (NF1.out _ (.inl rfl))
        have o1' : ob w7 (w.heap.size + 1) = some (.cells #[.int .i64 0, .int .i64 0, .bool false, .bool false, .int .i64 0] 53 (0, 0)) := hm7.chg.ob (by simp [go_sem, *]) (NF1.out _ (.inr (.inl rfl)))
        have o2' : ob w7 w2.heap.size = some (.cells #[.int .i64 0, .int .i64 0, .bool false, .bool false, .int .i64 0] 53 (0, 0)) := hm7.chg.ob (by simp [go_sem, *]) (NF1.out _ (.inr (.inr rfl)))
        replace o0 := o0'
        clear o0'
        replace o1 := o1'
        clear o1'
        replace o2 := o2'
        clear o2'
        clear a0 a1 a2 a3 af b0 b1 b2 b3 b4 bf l0 l1 lpw
        obtain ⟨a0, a1, a2, a3, af⟩ := ob_cells4 o0
        obtain ⟨b0, b1, b2, b3, b4, bf⟩ := ob_cells5 o1
        obtain ⟨d0, d1, d2, d3, d4, df⟩ := ob_cells5 o2
        have l0 := ob_lt o0
        have l1 := ob_lt o1
        have l2 := ob_lt o2
        replace k0 := R7.out.cell.1
        have lpw := R7.out.lt R7.out.cell.2
        generalize (c.lines).can block = r7
        clear hr7 hm7
        go_wp2_with fail
        refine (RefSet_calls block b (R7.out.below (Chg.below (by repeat (first | with_reducible exact Chg.refl _ _ | with_reducible exact chg0 | with_reducible refine Chg.drewN ?_ _ | with_reducible refine Chg.drew ?_ | with_reducible refine Chg.alloc ?_ _ | with_reducible refine Chg.setCell ?_ _ _ (by first | (simp; done) | omega | (simp; omega)) | with_reducible refine Chg.setBlock ?_ _ _ (by first | (simp; done) | omega | (simp; omega)) | exact Chg.refl _ _)))) (by have := HDL.out; omega)).mono ?_
        rintro e w8 ⟨rfl, F8, hr8, hm8⟩
        have M8 := Lib.hid (M7.out.trans ((Moves.none (by repeat (first | with_reducible exact Chg.refl _ _ | with_reducible exact chg0 | with_reducible refine Chg.drewN ?_ _ | with_reducible refine Chg.drew ?_ | with_reducible refine Chg.alloc ?_ _ | with_reducible refine Chg.setCell ?_ _ _ (by first | (simp; done) | omega | (simp; omega)) | with_reducible refine Chg.setBlock ?_ _ _ (by first | (simp; done) | omega | (simp; omega)) | exact Chg.refl _ _))).trans hm8))
        rw [if_pos (show 0 < b.count from by have := Q1.out; omega)] at hr8
        have R8 := Lib.hid hr8
        have NF8 := Lib.hid (nf_step (k1 := w.heap.size) (k2 := w.heap.size + 1) (k3 := w2.heap.size) NF7.out hm8.fresh (by first | omega | (simp; omega) | simp) (by first | omega | (simp; omega) | simp) (by first | omega | (simp; omega) | simp))
        have o0' : ob w8 w.heap.size = some (.cells #[.int .i64 b.count, .bool b.owner, .bool b.has, .int .i64 b.data] 47 (0, 0)) := hm8.chg.ob (by simp [go_sem, *]) (NF7.out _ (.inl rfl))
        have o1' : ob w8 (w.heap.size + 1) = some (.cells #[.int .i64 0, .int .i64 0, .bool false, .bool false, .int .i64 0] 53 (0, 0)) := hm8.chg.ob (by simp [go_sem, *]) (NF7.out _ (.inr (.inl rfl)))
        have o2' : ob w8 w2.heap.size = some (.cells #[.int .i64 0, .int .i64 0, .bool false, .bool false, .int .i64 0] 53 (0, 0)) := hm8.chg.ob (by simp [go_sem, *]) (NF7.out _ (.inr (.inr rfl)))
        replace o0 := o0'
        clear o0'
        replace o1 := o1'
        clear o1'
        replace o2 := o2'
        clear o2'
        clear a0 a1 a2 a3 af b0 b1 b2 b3 b4 bf d0 d1 d2 d3 d4 df l0 l1 l2 lpw
        obtain ⟨a0, a1, a2, a3, af⟩ := ob_cells4 o0
        obtain ⟨b0, b1, b2, b3, b4, bf⟩ := ob_cells5 o1
        obtain ⟨d0, d1, d2, d3, d4, df⟩ := ob_cells5 o2
        have l0 := ob_lt o0
        have l1 := ob_lt o1
        have l2 := ob_lt o2
        clear hr8 hm8
        go_wp2_with fail
        (try (go_big_region; go_wp2_with fail))
        (try simp only [Exit.inBlock, Exit.then])
        refine bodyRet2 _ _ rfl rfl (ResIs.row Try.underlying53 rfl (by kernel_rfl) rfl (by simp [go_sem, *]; exact ⟨rfl, rfl, rfl⟩)) ResIs.tmp ?_
        have e1 : cc.1.lines = (c.lines).add block := by rw [HAB.out]; rfl
        have e2 : cc.1.tok = fun j => if j = block then b else c.tok j := by rw [HAB.out]; rfl
        refine ⟨by rw [HAB.out]; rfl, F8, ⟨lp, setD (D) block b, by rw [e1]; exact R8.out.chg (S := fun j => j = w.heap.size + 1) (by repeat (first | with_reducible exact Chg.refl _ _ | with_reducible exact chg0 | with_reducible refine Chg.drewN ?_ _ | with_reducible refine Chg.drew ?_ | with_reducible refine Chg.alloc ?_ _ | with_reducible refine Chg.setCell ?_ _ _ (by first | (simp; done) | omega | (simp; omega)) | with_reducible refine Chg.setBlock ?_ _ _ (by first | (simp; done) | omega | (simp; omega)) | exact Chg.refl _ _)) (fun j hf e => NF8.out j (.inr (.inl e)) hf), by rw [e2]; exact HT.out.set block b, OKA.out⟩, Moves.fin (by repeat (first | with_reducible exact Chg.refl _ _ | with_reducible exact chg0 | with_reducible refine Chg.drewN ?_ _ | with_reducible refine Chg.drew ?_ | with_reducible refine Chg.alloc ?_ _ | with_reducible refine Chg.setCell ?_ _ _ (by first | (simp; done) | omega | (simp; omega)) | with_reducible refine Chg.setBlock ?_ _ _ (by first | (simp; done) | omega | (simp; omega)) | exact Chg.refl _ _)) M8.out (S := fun j => j = w.heap.size + 1) (by repeat (first | with_reducible exact Chg.refl _ _ | with_reducible exact chg0 | with_reducible refine Chg.drewN ?_ _ | with_reducible refine Chg.drew ?_ | with_reducible refine Chg.alloc ?_ _ | with_reducible refine Chg.setCell ?_ _ _ (by first | (simp; done) | omega | (simp; omega)) | with_reducible refine Chg.setBlock ?_ _ _ (by first | (simp; done) | omega | (simp; omega)) | exact Chg.refl _ _)) (fun j e => by omega)⟩
end
end Go.Proofs.Ytocnhmakgbdbfaa
