/-
  The program's cache: Take.
-/
import Derived.Test.YtchlioikkhnidaaGreatMF
import Derived.Test.YtchlioikkhnidaaGreatMI
import Derived.BigRegion
import Derived.Deep.LoopGhost
import Derived.Deep.CutBlock
import Derived.StillTailTactics
import Derived.Test.YtchlioikkhnidaaGreatML
import Derived.Test.YtchlioikkhnidaaGreatMD
import Derived.Test.YtchlioikkhnidaaGreatMC
import Derived.Deep.RegionHeld3
set_option linter.unusedVariables false
set_option linter.unusedSimpArgs false
namespace Go.Proofs.YtchlioikkhnidaaGreat
open Go.RowKit Go.Sort Go.ChangeShapes Go.WideShapes Go.ChangeAt
open Go.ChangeMaps (setBlock)
set_option linter.unusedVariables false
set_option linter.unusedSimpArgs false

theorem CaGo.putOwn {S : Nat → Prop} {w W wf : World} {p lp tb : Nat} {o o3 : Obj} {f f' : Int → Option Value} {s : Lines} {FL : Nat → Prop} (r : CaRaw w p lp tb o f s FL) (ho : MapObj o3 f') (hC : Chg S (setBlock W tb o3) wf) (hA : Chg (fun _ => False) w W)
    (hS : ∀ j, S j → w.heap.size ≤ j) (hn : ∀ j, j = p ∨ j = tb ∨ FL j → ¬ S j) : CaGo w wf p lp tb f' s FL FL :=
  ((((CaGo.start r).same hA.below).put ho).own hC hS hn)
section
variable {w w' : World} {p : Nat} {c : CacheM} {F : Nat → Prop}
set_option maxHeartbeats 4000000 in
set_option maxRecDepth 20000 in
theorem Take_calls (block count : Int) (owner data : Bool) (h : CacheAt w p c F) (hb : (c.tok block).count ≤ 1000000000000) :
    Calls Tryz.prog 93 #[.pointer (some ⟨p, 0, none⟩), .int .i64 block, .int .i64 count, .bool owner, .bool data] w fun e w' =>
      e = .returned (c.take block count owner data).2.val ∧ ∃ F', CacheAt w' p (c.take block count owner data).1 F' ∧ Moves w w' F F' := by
  have ok := h.ok
  have hsg := Bundle.split_good (ok.good block) count owner data
  have hsc := Bundle.split_count (ok.good block) count owner data
  obtain ⟨s1, hs1⟩ : ∃ x, x = ((c.tok block).split count owner data).1 := ⟨_, rfl⟩
  obtain ⟨s2, hs2⟩ : ∃ x, x = ((c.tok block).split count owner data).2 := ⟨_, rfl⟩
  have oka := CacheM.take_ok ok block count owner data
  have ht : c.take block count owner data = (c.set block ((c.tok block).split count owner data).2, ((c.tok block).split count owner data).1) := rfl
  have hS := Split_calls (c.tok block) count owner data
  rw [ht] at oka
  simp only [← hs1, ← hs2] at ht hS hsg hsc oka
  have HS := Lib.hid hS
  have HFl := Lib.hid (fun j (hj : F j) => h.lt hj)
  have H := Lib.hid h
  have OK := Lib.hid ok
  have OKA := Lib.hid oka
  have HG := Lib.hid hsg
  rw [ht]
  clear ht hS hs1 hs2 hsg hsc oka
  obtain ⟨lp, tb, o, f, FL, r, htm, _, hF, hFl⟩ := h
  have k1 : w.cell? ⟨p, 1, none⟩ = some (.map (some tb)) := cell_ob r.at_ 1
  have hm0 := r.map
  have lt' := ob_lt r.map
  have lp' := ob_lt r.at_
  have hlk : ∀ W : World, ob W tb = some o → (Instr.lookup 170 (.map (some tb)) (.int .i64 block) false).run Tryz.prog W = .ok (c.tok block).val W := fun W hW => by
    rw [r.obj.lookup tyIB block _ W hW, htm.get ok]
  have R := Lib.hid r
  have HT := Lib.hid htm
  have HF := Lib.hid hF
  clear r htm hF ok hFl
  simp only [Bundle.val, Bundle.cells] at hlk ⊢
  go_enter Tryz.func93, Tryz.ntmps93
  go_wp2_with fail
  refine (HS.out _ (OK.out.good block) hb).mono ?_
  rintro e w2 ⟨rfl, hb2⟩
  simp only [Bundle.val, Bundle.cells]
  have z2 : ob w2 w.heap.size = some (.cells #[.int .i64 0, .bool false, .bool false, .int .i64 0] 42 (0, 0)) := (Chg.of_below (S := fun _ => False) hb2).ob (by simp [go_sem]) (fun h => h)
  have ch2 : Chg (fun _ => False) w w2 := Chg.of_below (below_trans (Chg.below (by repeat (first | with_reducible exact Chg.refl _ _ | with_reducible exact chg0 | with_reducible refine Chg.drewN ?_ _ | with_reducible refine Chg.drew ?_ | with_reducible refine Chg.alloc ?_ _ | with_reducible refine Chg.setCell ?_ _ _ (by first | (simp; done) | omega | (simp; omega)) | with_reducible refine Chg.setBlock ?_ _ _ (by first | (simp; done) | omega | (simp; omega)) | exact Chg.refl _ _))) hb2)
  have lz := ob_lt z2
  have y1 : w2.cell? ⟨p, 1, none⟩ = some (.map (some tb)) := ch2.cell k1 (fun h => h)
  have y2 : ob w2 tb = some o := ch2.ob hm0 (fun h => h)
  have sz2 := ch2.size
  have lp2 : p < w2.heap.size := by omega
  have lt2 : tb < w2.heap.size := by omega
  have hF0 : ∀ j, F j → j ≠ w.heap.size ∧ j ≠ w2.heap.size := fun j hj => by have := HFl.out j hj; omega
  have HF0 := Lib.hid hF0
  obtain ⟨a0, a1, a2, a3, af⟩ := ob_cells4 z2
  clear hb2 hF0 k1 hm0
  by_cases hp : 0 < s2.count
  · have hp' : decide (0 < s2.count) = true := by simpa using hp
    have HP := Lib.hid hp
    obtain ⟨o3, ho3, hup⟩ := R.out.obj.update tyIB block s2.val tb
    have HO3 := Lib.hid ho3
    simp only [Bundle.val, Bundle.cells] at hup
    have hn1 : w.heap.size ≠ tb := by omega
    have hn2 : w2.heap.size ≠ tb := by omega
    have lp3 : p < w2.heap.size + 1 := by omega
    have lt3 : tb < w2.heap.size + 1 := by omega
    have lz3 : w.heap.size < w2.heap.size + 1 := by omega
    clear hp ho3
    go_wp2_with fail
    go_big_region
    go_wp2_with fail
    (try simp only [Exit.inBlock, Exit.then])
    refine bodyRet1 _ rfl rfl (ResIs.row Tryz.underlying42 rfl (by kernel_rfl) rfl (by simp [go_sem, *]; exact ⟨rfl, rfl, rfl⟩)) ?_
    refine ⟨rfl, CaGo.done (CaGo.putOwn (S := fun j => j = w.heap.size) R.out HO3.out (by repeat (first | with_reducible exact Chg.refl _ _ | with_reducible exact chg0 | with_reducible refine Chg.drewN ?_ _ | with_reducible refine Chg.drew ?_ | with_reducible refine Chg.alloc ?_ _ | with_reducible refine Chg.setCell ?_ _ _ (by first | (simp; done) | omega | (simp; omega)) | with_reducible refine Chg.setBlock ?_ _ _ (by first | (simp; done) | omega | (simp; omega)) | exact Chg.refl _ _)) (ch2.trans (S' := fun _ => False) (by repeat (first | with_reducible exact Chg.refl _ _ | with_reducible exact chg0 | with_reducible refine Chg.drewN ?_ _ | with_reducible refine Chg.drew ?_ | with_reducible refine Chg.alloc ?_ _ | with_reducible refine Chg.setCell ?_ _ _ (by first | (simp; done) | omega | (simp; omega)) | with_reducible refine Chg.setBlock ?_ _ _ (by first | (simp; done) | omega | (simp; omega)) | exact Chg.refl _ _)) (fun _ _ h => h)) (fun j e => Nat.le_of_eq e.symm) ?_) ?_ (HT.out.upd block _ HP.out) OKA.out HF.out HFl.out⟩
    · rintro j hj e
      exact (HF0.out j (HF.out j hj)).1 e
    · simp only [CacheM.set]
      rw [if_pos HP.out]
  · have hp' : decide (0 < s2.count) = false := by simpa using hp
    have HP := Lib.hid hp
    clear hp
    go_wp2_with fail
    refine (CaGo.lose block (c.tok block) (((CaGo.start R.out).same ch2.below).same (Chg.below (by repeat (first | with_reducible exact Chg.refl _ _ | with_reducible exact chg0 | with_reducible refine Chg.drewN ?_ _ | with_reducible refine Chg.drew ?_ | with_reducible refine Chg.alloc ?_ _ | with_reducible refine Chg.setCell ?_ _ _ (by first | (simp; done) | omega | (simp; omega)) | with_reducible refine Chg.setBlock ?_ _ _ (by first | (simp; done) | omega | (simp; omega)) | exact Chg.refl _ _)))) (HT.out.get OK.out block) lose_calls).mono ?_
    rintro e w3 ⟨rfl, F3, hg, hch, hfr⟩
    have hnf : ∀ j, j = w.heap.size ∨ j = w2.heap.size → ¬ (j = tb ∨ FL j) := by
      rintro j hj (e | hf)
      · omega
      · have := HF0.out j (HF.out j (.inr (.inr hf))); omega
    have o0 : ob w3 w.heap.size = some (.cells #[.int .i64 0, .bool false, .bool false, .int .i64 0] 42 (0, 0)) := hch.ob (by simp [go_sem, z2, lz, Nat.lt_succ_of_lt lz]) (hnf _ (.inl rfl))
    have o1 : ob w3 w2.heap.size = some (.cells #[.int .i64 s1.count, .bool s1.owner, .bool s1.has, .int .i64 s1.data] 42 (0, 0)) := hch.ob (by simp [go_sem]) (hnf _ (.inr rfl))
    obtain ⟨x0, x1, x2, x3, xf⟩ := ob_cells4 o0
    obtain ⟨u0, u1, u2, u3, uf⟩ := ob_cells4 o1
    have l0 := ob_lt o0
    have l1 := ob_lt o1
    have HG3 := Lib.hid hg
    have hne3 : ∀ j, j = p ∨ j = tb ∨ F3 j → ¬ j = w.heap.size := by
      rintro j (rfl | rfl | hj) e
      · omega
      · omega
      · rcases hfr j hj with h | h
        · exact hnf j (.inl e) (.inr h)
        · simp [go_sem] at h; omega
    have NE := Lib.hid hne3
    clear hg hch hfr hnf hne3 a0 a1 a2 a3 af z2
    simp only [Bundle.val, Bundle.cells]
    go_wp2_with fail
    (try simp only [Exit.inBlock, Exit.then])
    refine bodyRet1 _ rfl rfl (ResIs.row Tryz.underlying42 rfl (by kernel_rfl) rfl (by simp [go_sem, *]; exact ⟨rfl, rfl, rfl⟩)) ?_
    refine ⟨rfl, CaGo.done (HG3.out.own (S := fun j => j = w.heap.size) (by repeat (first | with_reducible exact Chg.refl _ _ | with_reducible exact chg0 | with_reducible refine Chg.drewN ?_ _ | with_reducible refine Chg.drew ?_ | with_reducible refine Chg.alloc ?_ _ | with_reducible refine Chg.setCell ?_ _ _ (by first | (simp; done) | omega | (simp; omega)) | with_reducible refine Chg.setBlock ?_ _ _ (by first | (simp; done) | omega | (simp; omega)) | exact Chg.refl _ _)) (fun j e => Nat.le_of_eq e.symm) NE.out) ?_ (HT.out.del block _ (by have := HP.out; omega)) OKA.out HF.out HFl.out⟩
    simp only [CacheM.set]
    rw [if_neg (by have := HP.out; omega)]
end
end Go.Proofs.YtchlioikkhnidaaGreat

/-
  The program's cache: All.
-/
namespace Go.Proofs.YtchlioikkhnidaaGreat
open Go.RowKit Go.Sort Go.ChangeShapes Go.WideShapes Go.ChangeAt
open Go.ChangeMaps (setBlock)
set_option linter.unusedVariables false
set_option linter.unusedSimpArgs false

section
variable {w w' : World} {p : Nat} {c : CacheM} {F : Nat → Prop}
theorem CacheM.all_len (c : CacheM) : c.all.length = c.lines.list.length := by simp [CacheM.all]
theorem list_len' (s : Lines) : s.list.length = s.all.length := (List.mergeSort_perm _ _).length_eq

set_option maxHeartbeats 4000000 in
set_option maxRecDepth 20000 in
theorem All_calls (h : CacheAt w p c F) : Calls Tryz.prog 41 #[.pointer (some ⟨p, 0, none⟩)] w fun e w' => ∃ v, e = .returned v ∧ OwnSl w' 53 5 v (c.all.map Line.cells) ∧ (∀ j, v.ownBlock = some j → w.heap.size ≤ j) ∧ Below w.heap.size w w' := by
  have ok := h.ok
  obtain ⟨lp, tb, o, f, FL, r, htm, _, hF, hFl⟩ := h
  have k0 : w.cell? ⟨p, 0, none⟩ = some (.pointer (some ⟨lp, 0, none⟩)) := cell_ob r.at_ 0
  have k1 : w.cell? ⟨p, 1, none⟩ = some (.map (some tb)) := cell_ob r.at_ 1
  have hm0 := r.map
  have lt' := ob_lt r.map
  have lp' := ob_lt r.at_
  have hlk : ∀ (b : Int) (W : World), ob W tb = some o → (Instr.lookup 170 (.map (some tb)) (.int .i64 b) false).run Tryz.prog W = .ok (c.tok b).val W := fun b W hW => by
    rw [r.obj.lookup tyIB b _ W hW, htm.get ok]
  have hfew : c.lines.list.length ≤ 1024 := by rw [list_len']; exact Lines.few ok.lines
  have R := Lib.hid r
  simp only [Bundle.val, Bundle.cells] at hlk
  clear r htm hF ok hFl
  go_enter Tryz.func41, Tryz.ntmps41
  go_wp2_with fail
  refine (List_calls (R.out.lines.below (Chg.below (by repeat (first | with_reducible exact Chg.refl _ _ | with_reducible exact chg0 | with_reducible refine Chg.drewN ?_ _ | with_reducible refine Chg.drew ?_ | with_reducible refine Chg.alloc ?_ _ | with_reducible refine Chg.setCell ?_ _ _ (by first | (simp; done) | omega | (simp; omega)) | with_reducible refine Chg.setBlock ?_ _ _ (by first | (simp; done) | omega | (simp; omega)) | exact Chg.refl _ _))))).mono ?_
  rintro e w2 ⟨u, rfl, hu, hul, hb2⟩
  obtain ⟨A4, cap4, e4⟩ := hu.form
  rw [ints_length] at e4
  subst e4
  have hb : Below w.heap.size w w2 := below_trans (Chg.below (by repeat (first | with_reducible exact Chg.refl _ _ | with_reducible exact chg0 | with_reducible refine Chg.drewN ?_ _ | with_reducible refine Chg.drew ?_ | with_reducible refine Chg.alloc ?_ _ | with_reducible refine Chg.setCell ?_ _ _ (by first | (simp; done) | omega | (simp; omega)) | with_reducible refine Chg.setBlock ?_ _ _ (by first | (simp; done) | omega | (simp; omega)) | exact Chg.refl _ _))) hb2
  obtain ⟨L, hL⟩ : ∃ L, L = c.lines.list := ⟨_, rfl⟩
  have hall : c.all = L.map fun b => ⟨b, c.tok b⟩ := by rw [hL]; rfl
  rw [← hL] at hu hfew ⊢
  have HU := Lib.hid hu
  have HB := Lib.hid hb
  have HA := Lib.hid hall
  have HUL := Lib.hid hul
  clear hu hb hall hb2 hL hul
  go_wp2_with fail
  go_loopw [3, 12] (fun v i wr => ∃ k : Nat, k ≤ L.length ∧ i = .int .i64 k ∧ OwnSl wr 53 5 v (((L.take k).map fun b => (⟨b, c.tok b⟩ : Line)).map Line.cells) ∧ (∀ j, v.ownBlock = some j → w2.heap.size ≤ j) ∧ Below w2.heap.size w2 wr) (fun _ i _ => L.length - (intOf i).toNat)
  case atStart => exact ⟨0, Nat.zero_le _, rfl, OwnSl.nil, fun j hj => by simp [Value.ownBlock] at hj, Chg.below (by repeat (first | with_reducible exact Chg.refl _ _ | with_reducible exact chg0 | with_reducible refine Chg.drewN ?_ _ | with_reducible refine Chg.drew ?_ | with_reducible refine Chg.alloc ?_ _ | with_reducible refine Chg.setCell ?_ _ _ (by first | (simp; done) | omega | (simp; omega)) | with_reducible refine Chg.setBlock ?_ _ _ (by first | (simp; done) | omega | (simp; omega)) | exact Chg.refl _ _))⟩
  case round =>
    obtain ⟨k, hk, rfl, hown, hlo, hbr⟩ := hrel
    have Hown := Lib.hid hown
    have Hlo := Lib.hid hlo
    have Hbr := Lib.hid hbr
    have sr := hbr.size
    have sw := HB.out.size
    clear hown hlo
    by_cases hlt : k < L.length
    · obtain ⟨A', cap', e', t1, t2, t3⟩ := sliceInts (HU.out.slice.below hbr)
      cases e'
      obtain ⟨bb, off, rfl, hc⟩ := t3 (by omega)
      have hc2 := hc k hlt
      obtain ⟨x, hx⟩ : ∃ x, x = L.getD k 0 := ⟨_, rfl⟩
      rw [← hx] at hc2
      have htake : L.take (k + 1) = L.take k ++ [x] := by rw [hx, List.take_add_one, List.getD_eq_getElem?_getD, List.getElem?_eq_getElem hlt]; rfl
      have HTk := Lib.hid htake
      have ltk : (L.take k).length ≤ 1024 := by rw [List.length_take]; omega
      have y1 : wr.cell? ⟨p, 1, none⟩ = some (.map (some tb)) := by rw [(below_trans HB.out hbr).cell lp']; exact k1
      have y2 : ob wr tb = some o := (Chg.of_below (S := fun _ => False) (below_trans HB.out hbr)).ob hm0 (fun h => h)
      have lpr : p < wr.heap.size := by omega
      have ltr : tb < wr.heap.size := by omega
      clear hc hx htake t1 t2 t3 hbr
      go_wp2_with (at_builtin; refine wpList_append_sl (xs := ((L.take k).map fun b => (⟨b, c.tok b⟩ : Line)).map Line.cells) (ys := [(⟨x, c.tok x⟩ : Line).cells]) rfl _ _ rfl tyLines rfl rfl (Hown.out.chg (S := fun _ => False) (by repeat (first | with_reducible exact Chg.refl _ _ | with_reducible exact chg0 | with_reducible refine Chg.drewN ?_ _ | with_reducible refine Chg.drew ?_ | with_reducible refine Chg.alloc ?_ _ | with_reducible refine Chg.setCell ?_ _ _ (by first | (simp; done) | omega | (simp; omega)) | with_reducible refine Chg.setBlock ?_ _ _ (by first | (simp; done) | omega | (simp; omega)) | exact Chg.refl _ _)) (fun _ _ h => h)) (OwnSl.made (e := 53) (ob_alloc_new _ _ _ rfl) (lines_ok [⟨x, c.tok x⟩]) rfl (by simp)).slice (lines_ok [⟨x, c.tok x⟩]) (by simp only [List.length_map, List.length_singleton]; omega) ?_; intro v5 w5 ho hc5 hloc)
      have hcc : Chg (fun j => u3.ownBlock = some j) wr w5 := Chg.trans (S' := fun j => u3.ownBlock = some j) (by repeat (first | with_reducible exact Chg.refl _ _ | with_reducible exact chg0 | with_reducible refine Chg.drewN ?_ _ | with_reducible refine Chg.drew ?_ | with_reducible refine Chg.alloc ?_ _ | with_reducible refine Chg.setCell ?_ _ _ (by first | (simp; done) | omega | (simp; omega)) | with_reducible refine Chg.setBlock ?_ _ _ (by first | (simp; done) | omega | (simp; omega)) | exact Chg.refl _ _)) hc5 (fun _ _ h => h)
      refine ⟨⟨k + 1, by omega, by go_num, by rw [HTk.out, List.map_append, List.map_append]; exact ho, ?_, below_chg Hbr.out hcc (fun j hj e => by have := Hlo.out j e; omega)⟩, by simp [intOf]; omega⟩
      intro j hj
      rcases hloc with h | h
      · rw [h] at hj; exact Hlo.out j hj
      · rw [h] at hj; injection hj with hj; rw [← hj]; simp; omega
    · have htk : L.take k = L := List.take_of_length_le (by omega)
      rw [htk] at Hown
      go_wp2_with fail
      go_ret
      exact ⟨_, rfl, by rw [HA.out]; exact Hown.out, fun j hj => Nat.le_trans sw (Hlo.out j hj), below_trans HB.out Hbr.out⟩
end
end Go.Proofs.YtchlioikkhnidaaGreat

/-
  The program's cache: Copy.
-/
namespace Go.Proofs.YtchlioikkhnidaaGreat
open Go.RowKit Go.Sort Go.ChangeShapes Go.WideShapes Go.ChangeAt
open Go.ChangeMaps (setBlock)
set_option linter.unusedVariables false
set_option linter.unusedSimpArgs false

section
variable {w w' : World} {p : Nat} {c : CacheM} {F : Nat → Prop}
theorem CloneB_calls {b : Nat} {o : Obj} {f : Int → Option Value} (hb : ob w b = some o) (ho : MapObj o f) :
    Calls Tryz.prog 118 #[.map (some b)] w fun e w' => ∃ b', e = .returned (.map (some b')) ∧ ob w' b' = some o ∧ w.heap.size ≤ b' ∧ Below w.heap.size w w' := by
  obtain ⟨es, clock, rfl, _⟩ := ho
  have hcon := AnyW.maps_Clone layCloneB b es clock w hb
  change Calls Tryz.prog 118 _ _ _ at hcon
  refine hcon.mono ?_
  rintro e w' ⟨rfl, rfl⟩
  exact ⟨_, rfl, ob_alloc_at _ _, Nat.le_refl _, ((Chg.refl (fun _ => False) w).alloc _).below⟩

set_option maxHeartbeats 2000000 in
set_option maxRecDepth 20000 in
theorem CacheCopy_calls (h : CacheAt w p c F) :
    Calls Tryz.prog 67 #[.pointer (some ⟨p, 0, none⟩)] w fun e w' => ∃ p' F', e = .returned (.pointer (some ⟨p', 0, none⟩)) ∧ CacheAt w' p' c F' ∧ (∀ j, F' j → w.heap.size ≤ j) ∧ Below w.heap.size w w' := by
  obtain ⟨lp, tb, o, f, FL, r, ht, ok, hF, hFl⟩ := h
  have c0 : w.cell? ⟨p, 0, none⟩ = some (.pointer (some ⟨lp, 0, none⟩)) := cell_ob r.at_ 0
  have c1 : w.cell? ⟨p, 1, none⟩ = some (.map (some tb)) := cell_ob r.at_ 1
  have R := Lib.hid r
  have HT := Lib.hid ht
  have OK := Lib.hid ok
  have hS := And.intro c0 c1
  clear r ht ok hF hFl
  go_enter Tryz.func67, Tryz.ntmps67
  go_wp2_with fail
  go_region_held3 (fun W => W.cell? ⟨p, 0, none⟩ = some (.pointer (some ⟨lp, 0, none⟩)) ∧ W.cell? ⟨p, 1, none⟩ = some (.map (some tb))) (first | assumption | (exact ⟨(Chg.cell (S := fun _ => False) (by repeat (first | with_reducible exact Chg.refl _ _ | with_reducible exact chg0 | with_reducible refine Chg.drewN ?_ _ | with_reducible refine Chg.drew ?_ | with_reducible refine Chg.alloc ?_ _ | with_reducible refine Chg.setCell ?_ _ _ (by first | (simp; done) | omega | (simp; omega)) | with_reducible refine Chg.setBlock ?_ _ _ (by first | (simp; done) | omega | (simp; omega)) | exact Chg.refl _ _)) hS.1 (fun h => h)), (Chg.cell (S := fun _ => False) (by repeat (first | with_reducible exact Chg.refl _ _ | with_reducible exact chg0 | with_reducible refine Chg.drewN ?_ _ | with_reducible refine Chg.drew ?_ | with_reducible refine Chg.alloc ?_ _ | with_reducible refine Chg.setCell ?_ _ _ (by first | (simp; done) | omega | (simp; omega)) | with_reducible refine Chg.setBlock ?_ _ _ (by first | (simp; done) | omega | (simp; omega)) | exact Chg.refl _ _)) hS.2 (fun h => h))⟩) | fail) (first
    | (have hQ := HM; go_at_call 117; refine (Copy_calls ((R.out.below HM.out.2.2).lines.below (Chg.below (w := wa) (by repeat (first | with_reducible exact Chg.refl _ _ | with_reducible exact chg0 | with_reducible refine Chg.drewN ?_ _ | with_reducible refine Chg.drew ?_ | with_reducible refine Chg.alloc ?_ _ | with_reducible refine Chg.setCell ?_ _ _ (by first | (simp; done) | omega | (simp; omega)) | with_reducible refine Chg.setBlock ?_ _ _ (by first | (simp; done) | omega | (simp; omega)) | exact Chg.refl _ _))))).mono ?_; rintro e wb ⟨lp', FL', rfl, hl, hlo, hbb⟩; have hbb' := below_trans (Chg.below (w := wa) (by repeat (first | with_reducible exact Chg.refl _ _ | with_reducible exact chg0 | with_reducible refine Chg.drewN ?_ _ | with_reducible refine Chg.drew ?_ | with_reducible refine Chg.alloc ?_ _ | with_reducible refine Chg.setCell ?_ _ _ (by first | (simp; done) | omega | (simp; omega)) | with_reducible refine Chg.setBlock ?_ _ _ (by first | (simp; done) | omega | (simp; omega)) | exact Chg.refl _ _))) hbb; have HZ := Lib.hid (show LinesAt wb lp' c.lines FL' ∧ ob wb tb' = some o ∧ (∀ j, FL' j → w.heap.size ≤ j) ∧ w.heap.size ≤ tb' ∧ ¬ FL' tb' ∧ Below w.heap.size w wb from ⟨hl, ob_step hbb' HM.out.1, fun j hj => Nat.le_trans HM.out.2.2.size (hlo j hj), HM.out.2.1, fun hj => absurd (ob_lt HM.out.1) (Nat.not_lt.2 (hlo _ hj)), below_trans HM.out.2.2 hbb'⟩); have hS' := And.intro ((Chg.of_below (S := fun _ => False) hbb').cell hS.1 (fun h => h)) ((Chg.of_below (S := fun _ => False) hbb').cell hS.2 (fun h => h)); clear hS; have hS := hS')
    | (have hQ := HL; go_at_call 118; refine (CloneB_calls (o := o) (f := f) ((Chg.ob (S := fun _ => False) (w := w) ((Chg.of_below HL.out.2.2).trans (S' := fun _ => False) (by repeat (first | with_reducible exact Chg.refl _ _ | with_reducible exact chg0 | with_reducible refine Chg.drewN ?_ _ | with_reducible refine Chg.drew ?_ | with_reducible refine Chg.alloc ?_ _ | with_reducible refine Chg.setCell ?_ _ _ (by first | (simp; done) | omega | (simp; omega)) | with_reducible refine Chg.setBlock ?_ _ _ (by first | (simp; done) | omega | (simp; omega)) | exact Chg.refl _ _)) (fun _ _ h => h)) R.out.map (fun h => h))) R.out.obj).mono ?_; rintro e wb ⟨tb', rfl, hm, hlo, hbb⟩; have hbb' := below_trans (Chg.below (w := wa) (by repeat (first | with_reducible exact Chg.refl _ _ | with_reducible exact chg0 | with_reducible refine Chg.drewN ?_ _ | with_reducible refine Chg.drew ?_ | with_reducible refine Chg.alloc ?_ _ | with_reducible refine Chg.setCell ?_ _ _ (by first | (simp; done) | omega | (simp; omega)) | with_reducible refine Chg.setBlock ?_ _ _ (by first | (simp; done) | omega | (simp; omega)) | exact Chg.refl _ _))) hbb; have HZ := Lib.hid (show LinesAt wb lp' c.lines FL' ∧ ob wb tb' = some o ∧ (∀ j, FL' j → w.heap.size ≤ j) ∧ w.heap.size ≤ tb' ∧ ¬ FL' tb' ∧ Below w.heap.size w wb from ⟨HL.out.1.below hbb', hm, HL.out.2.1, Nat.le_trans HL.out.2.2.size hlo, fun hj => absurd (HL.out.1.fin hj) (Nat.not_lt.2 hlo), below_trans HL.out.2.2 hbb'⟩); have hS' := And.intro ((Chg.of_below (S := fun _ => False) hbb').cell hS.1 (fun h => h)) ((Chg.of_below (S := fun _ => False) hbb').cell hS.2 (fun h => h)); clear hS; have hS := hS')
    | (go_at_call 117; refine (Copy_calls (R.out.lines.below (Chg.below (w := w) (by repeat (first | with_reducible exact Chg.refl _ _ | with_reducible exact chg0 | with_reducible refine Chg.drewN ?_ _ | with_reducible refine Chg.drew ?_ | with_reducible refine Chg.alloc ?_ _ | with_reducible refine Chg.setCell ?_ _ _ (by first | (simp; done) | omega | (simp; omega)) | with_reducible refine Chg.setBlock ?_ _ _ (by first | (simp; done) | omega | (simp; omega)) | exact Chg.refl _ _))))).mono ?_; rintro e wa ⟨lp', FL', rfl, hl, hlo, hba⟩; have hba' := below_trans (Chg.below (w := w) (by repeat (first | with_reducible exact Chg.refl _ _ | with_reducible exact chg0 | with_reducible refine Chg.drewN ?_ _ | with_reducible refine Chg.drew ?_ | with_reducible refine Chg.alloc ?_ _ | with_reducible refine Chg.setCell ?_ _ _ (by first | (simp; done) | omega | (simp; omega)) | with_reducible refine Chg.setBlock ?_ _ _ (by first | (simp; done) | omega | (simp; omega)) | exact Chg.refl _ _))) hba; have HL := Lib.hid (show LinesAt wa lp' c.lines FL' ∧ (∀ j, FL' j → w.heap.size ≤ j) ∧ Below w.heap.size w wa from ⟨hl, hlo, hba'⟩); have hS' := And.intro ((Chg.of_below (S := fun _ => False) hba').cell hS.1 (fun h => h)) ((Chg.of_below (S := fun _ => False) hba').cell hS.2 (fun h => h)); clear hS; have hS := hS'; clear hl hlo hba)
    | (go_at_call 118; refine (CloneB_calls (o := o) (f := f) (Chg.ob (S := fun _ => False) (w := w) (by repeat (first | with_reducible exact Chg.refl _ _ | with_reducible exact chg0 | with_reducible refine Chg.drewN ?_ _ | with_reducible refine Chg.drew ?_ | with_reducible refine Chg.alloc ?_ _ | with_reducible refine Chg.setCell ?_ _ _ (by first | (simp; done) | omega | (simp; omega)) | with_reducible refine Chg.setBlock ?_ _ _ (by first | (simp; done) | omega | (simp; omega)) | exact Chg.refl _ _)) R.out.map (fun h => h)) R.out.obj).mono ?_; rintro e wa ⟨tb', rfl, hm, hlo, hba⟩; have hba' := below_trans (Chg.below (w := w) (by repeat (first | with_reducible exact Chg.refl _ _ | with_reducible exact chg0 | with_reducible refine Chg.drewN ?_ _ | with_reducible refine Chg.drew ?_ | with_reducible refine Chg.alloc ?_ _ | with_reducible refine Chg.setCell ?_ _ _ (by first | (simp; done) | omega | (simp; omega)) | with_reducible refine Chg.setBlock ?_ _ _ (by first | (simp; done) | omega | (simp; omega)) | exact Chg.refl _ _))) hba; have HM := Lib.hid (show ob wa tb' = some o ∧ w.heap.size ≤ tb' ∧ Below w.heap.size w wa from ⟨hm, hlo, hba'⟩); have hS' := And.intro ((Chg.of_below (S := fun _ => False) hba').cell hS.1 (fun h => h)) ((Chg.of_below (S := fun _ => False) hba').cell hS.2 (fun h => h)); clear hS; have hS := hS'; clear hm hlo hba)
    | fail)
  all_goals
    go_wp2_with fail
    go_ret
    obtain ⟨z1, z2, z3, z4, z5, z6⟩ := HZ.out
    have hfin : ∀ j, FL' j → j < wb.heap.size := fun j hj => z1.fin hj
    have hsz := z6.size
    refine ⟨wb.heap.size, fun j => j = wb.heap.size ∨ j = tb' ∨ FL' j, rfl, ⟨lp', tb', o, f, FL', ⟨?_, z1.below (Chg.below (by repeat (first | with_reducible exact Chg.refl _ _ | with_reducible exact chg0 | with_reducible refine Chg.drewN ?_ _ | with_reducible refine Chg.drew ?_ | with_reducible refine Chg.alloc ?_ _ | with_reducible refine Chg.setCell ?_ _ _ (by first | (simp; done) | omega | (simp; omega)) | with_reducible refine Chg.setBlock ?_ _ _ (by first | (simp; done) | omega | (simp; omega)) | exact Chg.refl _ _))), ?_, R.out.obj, fun hj => absurd (hfin _ hj) (Nat.lt_irrefl _), z5⟩, HT.out, OK.out, fun _ h => h, ?_⟩, ?_, below_trans z6 (Chg.below (by repeat (first | with_reducible exact Chg.refl _ _ | with_reducible exact chg0 | with_reducible refine Chg.drewN ?_ _ | with_reducible refine Chg.drew ?_ | with_reducible refine Chg.alloc ?_ _ | with_reducible refine Chg.setCell ?_ _ _ (by first | (simp; done) | omega | (simp; omega)) | with_reducible refine Chg.setBlock ?_ _ _ (by first | (simp; done) | omega | (simp; omega)) | exact Chg.refl _ _)))⟩
    · simp [go_sem]
    · exact Chg.ob (S := fun _ => False) (w := wb) (by repeat (first | with_reducible exact Chg.refl _ _ | with_reducible exact chg0 | with_reducible refine Chg.drewN ?_ _ | with_reducible refine Chg.drew ?_ | with_reducible refine Chg.alloc ?_ _ | with_reducible refine Chg.setCell ?_ _ _ (by first | (simp; done) | omega | (simp; omega)) | with_reducible refine Chg.setBlock ?_ _ _ (by first | (simp; done) | omega | (simp; omega)) | exact Chg.refl _ _)) z2 (fun h => h)
    · rintro j (rfl | rfl | hj)
      · simp
      · have := ob_lt z2; simp; omega
      · have := hfin j hj; simp; omega
    · rintro j (rfl | rfl | hj)
      · exact hsz
      · exact z4
      · exact z3 j hj
end
end Go.Proofs.YtchlioikkhnidaaGreat
