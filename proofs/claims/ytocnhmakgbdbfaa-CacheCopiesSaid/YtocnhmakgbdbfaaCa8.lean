/-
  The program's cache: Take.
-/
import Derived.Test.YtocnhmakgbdbfaaCa6
import Derived.Test.YtocnhmakgbdbfaaCa4
import Derived.BigRegion
import Derived.Deep.LoopGhost
import Derived.Deep.CutBlock
import Derived.StillTailTactics
namespace Go.Proofs.Ytocnhmakgbdbfaa
open Go.RowKit Go.Sort Go.ChangeShapes Go.WideShapes Go.ChangeAt
open Go.ChangeMaps (setBlock)
set_option linter.unusedVariables false
set_option linter.unusedSimpArgs false

theorem CaGo.putOwn {S : Nat → Prop} {w W wf : World} {p lp tb : Nat} {o o3 : Obj} {f f' : Int → Option Value} {s : Lines} {FL : Nat → Prop} (r : CaRaw w p lp tb o f s FL) (ho : MapObj o3 f') (hC : Chg S (setBlock W tb o3) wf) (hA : Chg (fun _ => False) w W)
    (hS : ∀ j, S j → w.heap.size ≤ j) (hn : ∀ j, j = p ∨ j = tb ∨ FL j → ¬ S j) : CaGo w wf p lp tb f' s FL FL :=
  ((((CaGo.start r).same hA.below).put ho).own hC hS hn)
section
variable {w w' : World} {p : Nat} {c : CacheM} {F : Nat → Prop}
set_option maxHeartbeats 4000000 in
set_option maxRecDepth 20000 in
theorem Take_calls (block count : Int) (owner data : Bool) (h : CacheAt w p c F) (hb : (c.tok block).count ≤ 1000000000000) :
    Calls Try.prog 33 #[.pointer (some ⟨p, 0, none⟩), .int .i64 block, .int .i64 count, .bool owner, .bool data] w fun e w' =>
      e = .returned (c.take block count owner data).2.val ∧ ∃ F', CacheAt w' p (c.take block count owner data).1 F' ∧ Moves w w' F F' := by
  have ok := h.ok
  have hsg := Bundle.split_good (ok.good block) count owner data
  have hsc := Bundle.split_count (ok.good block) count owner data
  obtain ⟨s1, hs1⟩ : ∃ x, x = ((c.tok block).split count owner data).1 := ⟨_, rfl⟩
  obtain ⟨s2, hs2⟩ : ∃ x, x = ((c.tok block).split count owner data).2 := ⟨_, rfl⟩
  have oka := CacheM.take_ok ok block count owner data
  have ht : c.take block count owner data = (c.set block ((c.tok block).split count owner data).2, ((c.tok block).split count owner data).1) := rfl
  have hS := Split_calls (c.tok block) count owner data
  rw [ht] at oka
  simp only [← hs1, ← hs2] at ht hS hsg hsc oka
  have HS := Lib.hid hS
  have HFl := Lib.hid (fun j (hj : F j) => h.lt hj)
  have H := Lib.hid h
  have OK := Lib.hid ok
  have OKA := Lib.hid oka
  have HG := Lib.hid hsg
  rw [ht]
  clear ht hS hs1 hs2 hsg hsc oka
  obtain ⟨lp, tb, o, f, FL, r, htm, _, hF, hFl⟩ := h
  have k1 : w.cell? ⟨p, 1, none⟩ = some (.map (some tb)) := cell_ob r.at_ 1
  have hm0 := r.map
  have lt' := ob_lt r.map
  have lp' := ob_lt r.at_
  have hlk : ∀ W : World, ob W tb = some o → (Instr.lookup 84 (.map (some tb)) (.int .i64 block) false).run Try.prog W = .ok (c.tok block).val W := fun W hW => by
    rw [r.obj.lookup tyIB block _ W hW, htm.get ok]
  have R := Lib.hid r
  have HT := Lib.hid htm
  have HF := Lib.hid hF
  clear r htm hF ok hFl
  simp only [Bundle.val, Bundle.cells] at hlk ⊢
  go_enter Try.func33, Try.ntmps33
  go_wp2_with fail
  refine (HS.out _ (OK.out.good block) hb).mono ?_
  rintro e w2 ⟨rfl, hb2⟩
  simp only [Bundle.val, Bundle.cells]
  have z2 : ob w2 w.heap.size = some (.cells #[.int .i64 0, .bool false, .bool false, .int .i64 0] 47 (0, 0)) := (Chg.of_below (S := fun _ => False) hb2).ob (by simp [go_sem]) (fun h => h)
  have ch2 : Chg (fun _ => False) w w2 := Chg.of_below (below_trans (Chg.below (by repeat (first | with_reducible exact Chg.refl _ _ | with_reducible exact chg0 | with_reducible refine Chg.drewN ?_ _ | with_reducible refine Chg.drew ?_ | with_reducible refine Chg.alloc ?_ _ | with_reducible refine Chg.setCell ?_ _ _ (by first | (simp; done) | omega | (simp; omega)) | with_reducible refine Chg.setBlock ?_ _ _ (by first | (simp; done) | omega | (simp; omega)) | exact Chg.refl _ _))) hb2)
  have lz := ob_lt z2
  have y1 : w2.cell? ⟨p, 1, none⟩ = some (.map (some tb)) := ch2.cell k1 (fun h => h)
  have y2 : ob w2 tb = some o := ch2.ob hm0 (fun h => h)
  have sz2 := ch2.size
  have lp2 : p < w2.heap.size := by omega
  have lt2 : tb < w2.heap.size := by omega
  have hF0 : ∀ j, F j → j ≠ w.heap.size ∧ j ≠ w2.heap.size := fun j hj => by have := HFl.out j hj; omega
  have HF0 := Lib.hid hF0
  obtain ⟨a0, a1, a2, a3, af⟩ := ob_cells4 z2
  clear hb2 hF0 k1 hm0
  by_cases hp : 0 < s2.count
  · have hp' : decide (0 < s2.count) = true := by simpa using hp
    have HP := Lib.hid hp
    obtain ⟨o3, ho3, hup⟩ := R.out.obj.update tyIB block s2.val tb
    have HO3 := Lib.hid ho3
    simp only [Bundle.val, Bundle.cells] at hup
    have hn1 : w.heap.size ≠ tb := by omega
    have hn2 : w2.heap.size ≠ tb := by omega
    have lp3 : p < w2.heap.size + 1 := by omega
    have lt3 : tb < w2.heap.size + 1 := by omega
    have lz3 : w.heap.size < w2.heap.size + 1 := by omega
    clear hp ho3
    go_wp2_with fail
    go_big_region
    go_wp2_with fail
    (try simp only [Exit.inBlock, Exit.then])
    refine bodyRet1 _ rfl rfl (ResIs.row Try.underlying47 rfl (by kernel_rfl) rfl (by simp [go_sem, *]; exact ⟨rfl, rfl, rfl⟩)) ?_
    refine ⟨rfl, CaGo.done (CaGo.putOwn (S := fun j => j = w.heap.size) R.out HO3.out (by repeat (first | with_reducible exact Chg.refl _ _ | with_reducible exact chg0 | with_reducible refine Chg.drewN ?_ _ | with_reducible refine Chg.drew ?_ | with_reducible refine Chg.alloc ?_ _ | with_reducible refine Chg.setCell ?_ _ _ (by first | (simp; done) | omega | (simp; omega)) | with_reducible refine Chg.setBlock ?_ _ _ (by first | (simp; done) | omega | (simp; omega)) | exact Chg.refl _ _)) (ch2.trans (S' := fun _ => False) (by repeat (first | with_reducible exact Chg.refl _ _ | with_reducible exact chg0 | with_reducible refine Chg.drewN ?_ _ | with_reducible refine Chg.drew ?_ | with_reducible refine Chg.alloc ?_ _ | with_reducible refine Chg.setCell ?_ _ _ (by first | (simp; done) | omega | (simp; omega)) | with_reducible refine Chg.setBlock ?_ _ _ (by first | (simp; done) | omega | (simp; omega)) | exact Chg.refl _ _)) (fun _ _ h => h)) (fun j e => Nat.le_of_eq e.symm) ?_) ?_ (HT.out.upd block _ HP.out) OKA.out HF.out HFl.out⟩
    · rintro j hj e
      exact (HF0.out j (HF.out j hj)).1 e
    · simp only [CacheM.set]
      rw [if_pos HP.out]
  · have hp' : decide (0 < s2.count) = false := by simpa using hp
    have HP := Lib.hid hp
    clear hp
    go_wp2_with fail
    refine (CaGo.lose block (c.tok block) (((CaGo.start R.out).same ch2.below).same (Chg.below (by repeat (first | with_reducible exact Chg.refl _ _ | with_reducible exact chg0 | with_reducible refine Chg.drewN ?_ _ | with_reducible refine Chg.drew ?_ | with_reducible refine Chg.alloc ?_ _ | with_reducible refine Chg.setCell ?_ _ _ (by first | (simp; done) | omega | (simp; omega)) | with_reducible refine Chg.setBlock ?_ _ _ (by first | (simp; done) | omega | (simp; omega)) | exact Chg.refl _ _)))) (HT.out.get OK.out block) lose_calls).mono ?_
    rintro e w3 ⟨rfl, F3, hg, hch, hfr⟩
    have hnf : ∀ j, j = w.heap.size ∨ j = w2.heap.size → ¬ (j = tb ∨ FL j) := by
      rintro j hj (e | hf)
      · omega
      · have := HF0.out j (HF.out j (.inr (.inr hf))); omega
    have o0 : ob w3 w.heap.size = some (.cells #[.int .i64 0, .bool false, .bool false, .int .i64 0] 47 (0, 0)) := hch.ob (by simp [go_sem, z2, lz, Nat.lt_succ_of_lt lz]) (hnf _ (.inl rfl))
    have o1 : ob w3 w2.heap.size = some (.cells #[.int .i64 s1.count, .bool s1.owner, .bool s1.has, .int .i64 s1.data] 47 (0, 0)) := hch.ob (by simp [go_sem]) (hnf _ (.inr rfl))
    obtain ⟨x0, x1, x2, x3, xf⟩ := ob_cells4 o0
    obtain ⟨u0, u1, u2, u3, uf⟩ := ob_cells4 o1
    have l0 := ob_lt o0
    have l1 := ob_lt o1
    have HG3 := Lib.hid hg
    have hne3 : ∀ j, j = p ∨ j = tb ∨ F3 j → ¬ j = w.heap.size := by
      rintro j (rfl | rfl | hj) e
      · omega
      · omega
      · rcases hfr j hj with h | h
        · exact hnf j (.inl e) (.inr h)
        · simp [go_sem] at h; omega
    have NE := Lib.hid hne3
    clear hg hch hfr hnf hne3 a0 a1 a2 a3 af z2
    simp only [Bundle.val, Bundle.cells]
    go_wp2_with fail
    (try simp only [Exit.inBlock, Exit.then])
    refine bodyRet1 _ rfl rfl (ResIs.row Try.underlying47 rfl (by kernel_rfl) rfl (by simp [go_sem, *]; exact ⟨rfl, rfl, rfl⟩)) ?_
    refine ⟨rfl, CaGo.done (HG3.out.own (S := fun j => j = w.heap.size) (by repeat (first | with_reducible exact Chg.refl _ _ | with_reducible exact chg0 | with_reducible refine Chg.drewN ?_ _ | with_reducible refine Chg.drew ?_ | with_reducible refine Chg.alloc ?_ _ | with_reducible refine Chg.setCell ?_ _ _ (by first | (simp; done) | omega | (simp; omega)) | with_reducible refine Chg.setBlock ?_ _ _ (by first | (simp; done) | omega | (simp; omega)) | exact Chg.refl _ _)) (fun j e => Nat.le_of_eq e.symm) NE.out) ?_ (HT.out.del block _ (by have := HP.out; omega)) OKA.out HF.out HFl.out⟩
    simp only [CacheM.set]
    rw [if_neg (by have := HP.out; omega)]
end
end Go.Proofs.Ytocnhmakgbdbfaa
