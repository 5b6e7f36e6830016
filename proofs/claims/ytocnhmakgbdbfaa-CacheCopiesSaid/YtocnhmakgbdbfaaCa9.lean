/-
  The program's cache: All.
-/
import Derived.Test.YtocnhmakgbdbfaaCa6
import Derived.Test.YtocnhmakgbdbfaaCaR
import Derived.Deep.LoopGhost
namespace Go.Proofs.Ytocnhmakgbdbfaa
open Go.RowKit Go.Sort Go.ChangeShapes Go.WideShapes Go.ChangeAt
open Go.ChangeMaps (setBlock)
set_option linter.unusedVariables false
set_option linter.unusedSimpArgs false

section
variable {w w' : World} {p : Nat} {c : CacheM} {F : Nat → Prop}
theorem CacheM.all_len (c : CacheM) : c.all.length = c.lines.list.length := by simp [CacheM.all]
theorem list_len' (s : Lines) : s.list.length = s.all.length := (List.mergeSort_perm _ _).length_eq

set_option maxHeartbeats 4000000 in
set_option maxRecDepth 20000 in
theorem All_calls (h : CacheAt w p c F) : Calls Try.prog 38 #[.pointer (some ⟨p, 0, none⟩)] w fun e w' => ∃ v, e = .returned v ∧ OwnSl w' 53 5 v (c.all.map Line.cells) ∧ (∀ j, v.ownBlock = some j → w.heap.size ≤ j) ∧ Below w.heap.size w w' := by
  have ok := h.ok
  obtain ⟨lp, tb, o, f, FL, r, htm, _, hF, hFl⟩ := h
  have k0 : w.cell? ⟨p, 0, none⟩ = some (.pointer (some ⟨lp, 0, none⟩)) := cell_ob r.at_ 0
  have k1 : w.cell? ⟨p, 1, none⟩ = some (.map (some tb)) := cell_ob r.at_ 1
  have hm0 := r.map
  have lt' := ob_lt r.map
  have lp' := ob_lt r.at_
  have hlk : ∀ (b : Int) (W : World), ob W tb = some o → (Instr.lookup 84 (.map (some tb)) (.int .i64 b) false).run Try.prog W = .ok (c.tok b).val W := fun b W hW => by
    rw [r.obj.lookup tyIB b _ W hW, htm.get ok]
  have hfew : c.lines.list.length ≤ 1024 := by rw [list_len']; exact Lines.few ok.lines
  have R := Lib.hid r
  simp only [Bundle.val, Bundle.cells] at hlk
  clear r htm hF ok hFl
  go_enter Try.func38, Try.ntmps38
  go_wp2_with fail
  refine (List_calls (R.out.lines.below (Chg.below (by repeat (first | with_reducible exact Chg.refl _ _ | with_reducible exact chg0 | with_reducible refine Chg.drewN ?_ _ | with_reducible refine Chg.drew ?_ | with_reducible refine Chg.alloc ?_ _ | with_reducible refine Chg.setCell ?_ _ _ (by first | (simp; done) | omega | (simp; omega)) | with_reducible refine Chg.setBlock ?_ _ _ (by first | (simp; done) | omega | (simp; omega)) | exact Chg.refl _ _))))).mono ?_
  rintro e w2 ⟨u, rfl, hu, hul, hb2⟩
  obtain ⟨A4, cap4, e4⟩ := hu.form
  rw [ints_length] at e4
  subst e4
  have hb : Below w.heap.size w w2 := below_trans (Chg.below (by repeat (first | with_reducible exact Chg.refl _ _ | with_reducible exact chg0 | with_reducible refine Chg.drewN ?_ _ | with_reducible refine Chg.drew ?_ | with_reducible refine Chg.alloc ?_ _ | with_reducible refine Chg.setCell ?_ _ _ (by first | (simp; done) | omega | (simp; omega)) | with_reducible refine Chg.setBlock ?_ _ _ (by first | (simp; done) | omega | (simp; omega)) | exact Chg.refl _ _))) hb2
  obtain ⟨L, hL⟩ : ∃ L, L = c.lines.list := ⟨_, rfl⟩
  have hall : c.all = L.map fun b => ⟨b, c.tok b⟩ := by rw [hL]; rfl
  rw [← hL] at hu hfew ⊢
  have HU := Lib.hid hu
  have HB := Lib.hid hb
  have HA := Lib.hid hall
  have HUL := Lib.hid hul
  clear hu hb hall hb2 hL hul
  go_wp2_with fail
  go_loopw [3, 12] (fun v i wr => ∃ k : Nat, k ≤ L.length ∧ i = .int .i64 k ∧ OwnSl wr 53 5 v (((L.take k).map fun b => (⟨b, c.tok b⟩ : Line)).map Line.cells) ∧ (∀ j, v.ownBlock = some j → w2.heap.size ≤ j) ∧ Below w2.heap.size w2 wr) (fun _ i _ => L.length - (intOf i).toNat)
  case atStart => exact ⟨0, Nat.zero_le _, rfl, OwnSl.nil, fun j hj => by simp [Value.ownBlock] at hj, Chg.below (by repeat (first | with_reducible exact Chg.refl _ _ | with_reducible exact chg0 | with_reducible refine Chg.drewN ?_ _ | with_reducible refine Chg.drew ?_ | with_reducible refine Chg.alloc ?_ _ | with_reducible refine Chg.setCell ?_ _ _ (by first | (simp; done) | omega | (simp; omega)) | with_reducible refine Chg.setBlock ?_ _ _ (by first | (simp; done) | omega | (simp; omega)) | exact Chg.refl _ _))⟩
  case round =>
    obtain ⟨k, hk, rfl, hown, hlo, hbr⟩ := hrel
    have Hown := Lib.hid hown
    have Hlo := Lib.hid hlo
    have Hbr := Lib.hid hbr
    have sr := hbr.size
    have sw := HB.out.size
    clear hown hlo
    by_cases hlt : k < L.length
    · obtain ⟨A', cap', e', t1, t2, t3⟩ := sliceInts (HU.out.slice.below hbr)
      cases e'
      obtain ⟨bb, off, rfl, hc⟩ := t3 (by omega)
      have hc2 := hc k hlt
      obtain ⟨x, hx⟩ : ∃ x, x = L.getD k 0 := ⟨_, rfl⟩
      rw [← hx] at hc2
      have htake : L.take (k + 1) = L.take k ++ [x] := by rw [hx, List.take_add_one, List.getD_eq_getElem?_getD, List.getElem?_eq_getElem hlt]; rfl
      have HTk := Lib.hid htake
      have ltk : (L.take k).length ≤ 1024 := by rw [List.length_take]; omega
      have y1 : wr.cell? ⟨p, 1, none⟩ = some (.map (some tb)) := by rw [(below_trans HB.out hbr).cell lp']; exact k1
      have y2 : ob wr tb = some o := (Chg.of_below (S := fun _ => False) (below_trans HB.out hbr)).ob hm0 (fun h => h)
      have lpr : p < wr.heap.size := by omega
      have ltr : tb < wr.heap.size := by omega
      clear hc hx htake t1 t2 t3 hbr
      go_wp2_with (at_builtin; refine wpList_append_sl (xs := ((L.take k).map fun b => (⟨b, c.tok b⟩ : Line)).map Line.cells) (ys := [(⟨x, c.tok x⟩ : Line).cells]) rfl _ _ rfl tyLines rfl rfl (Hown.out.chg (S := fun _ => False) (by repeat (first | with_reducible exact Chg.refl _ _ | with_reducible exact chg0 | with_reducible refine Chg.drewN ?_ _ | with_reducible refine Chg.drew ?_ | with_reducible refine Chg.alloc ?_ _ | with_reducible refine Chg.setCell ?_ _ _ (by first | (simp; done) | omega | (simp; omega)) | with_reducible refine Chg.setBlock ?_ _ _ (by first | (simp; done) | omega | (simp; omega)) | exact Chg.refl _ _)) (fun _ _ h => h)) (OwnSl.made (e := 53) (ob_alloc_new _ _ _ rfl) (lines_ok [⟨x, c.tok x⟩]) rfl (by simp)).slice (lines_ok [⟨x, c.tok x⟩]) (by simp only [List.length_map, List.length_singleton]; omega) ?_; intro v5 w5 ho hc5 hloc)
      have hcc : Chg (fun j => u3.ownBlock = some j) wr w5 := Chg.trans (S' := fun j => u3.ownBlock = some j) (by repeat (first | with_reducible exact Chg.refl _ _ | with_reducible exact chg0 | with_reducible refine Chg.drewN ?_ _ | with_reducible refine Chg.drew ?_ | with_reducible refine Chg.alloc ?_ _ | with_reducible refine Chg.setCell ?_ _ _ (by first | (simp; done) | omega | (simp; omega)) | with_reducible refine Chg.setBlock ?_ _ _ (by first | (simp; done) | omega | (simp; omega)) | exact Chg.refl _ _)) hc5 (fun _ _ h => h)
      refine ⟨⟨k + 1, by omega, by go_num, by rw [HTk.out, List.map_append, List.map_append]; exact ho, ?_, below_chg Hbr.out hcc (fun j hj e => by have := Hlo.out j e; omega)⟩, by simp [intOf]; omega⟩
      intro j hj
      rcases hloc with h | h
      · rw [h] at hj; exact Hlo.out j hj
      · rw [h] at hj; injection hj with hj; rw [← hj]; simp; omega
    · have htk : L.take k = L := List.take_of_length_le (by omega)
      rw [htk] at Hown
      go_wp2_with fail
      go_ret
      exact ⟨_, rfl, by rw [HA.out]; exact Hown.out, fun j hj => Nat.le_trans sw (Hlo.out j hj), below_trans HB.out Hbr.out⟩
end
end Go.Proofs.Ytocnhmakgbdbfaa
