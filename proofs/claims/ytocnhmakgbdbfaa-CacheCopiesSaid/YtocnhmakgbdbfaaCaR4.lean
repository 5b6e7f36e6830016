/-
  The document's cache: All; two lists of lines.
-/
import Derived.Test.YtocnhmakgbdbfaaCaR3
import Derived.Test.YtocnhmakgbdbfaaLnR5
import Derived.Deep.LoopGhost
namespace Go.Proofs.Ytocnhmakgbdbfaa
open Go.RowKit Go.Sort Go.ChangeShapes Go.WideShapes Go.ChangeAt
open Go.ChangeMaps (setBlock)
set_option linter.unusedVariables false
set_option linter.unusedSimpArgs false

section
variable {w w' : World} {p : Nat} {c : CacheM} {F : Nat → Prop}
set_option maxHeartbeats 2000000 in
theorem LineSame_calls (l : List Line) (va vb : Value) (w : World) (ha : SliceIs w 5 va (l.map Line.cells)) (hb : SliceIs w 5 vb (l.map Line.cells)) :
    Calls Try.prog 37 #[va, vb] w fun e w' => e = .returned (.bool true) ∧ ∃ n, w' = w.drewN n := by
  obtain ⟨A, ca, rfl, a1, a2, a3⟩ := sliceLines ha
  obtain ⟨B, cb, rfl, b1, b2, b3⟩ := sliceLines hb
  clear ha hb
  have A3 := Lib.hid a3
  have B3 := Lib.hid b3
  clear a3 b3
  have hl1 : ((l.length : Int) != (l.length : Int)) = false := by simp
  go_enter Try.func37, Try.ntmps37
  go_wp2_with fail
  go_loopw [5] (fun i wr => ∃ (k n : Nat), k ≤ l.length ∧ i = .int .i64 k ∧ wr = w.drewN n) (fun i _ => l.length - (intOf i).toNat)
  case atStart => exact ⟨0, 0, Nat.zero_le _, rfl, rfl⟩
  case round =>
    obtain ⟨k, n, hk, rfl, rfl⟩ := hrel
    by_cases hlt : k < l.length
    · obtain ⟨q, off, rfl, hc⟩ := A3.out (by omega)
      obtain ⟨q', off', rfl, hc'⟩ := B3.out (by omega)
      have h1 := hc k hlt
      have h2 := hc' k hlt
      clear hc hc'
      generalize l[k] = x at h1 h2
      obtain ⟨c0, c1, c2, c3, c4⟩ := Line.range h1
      obtain ⟨d0, d1, d2, d3, d4⟩ := Line.range h2
      clear h1 h2
      go_wp2_with fail
      go_quiet (fail)
      go_wp2_with fail
      exact ⟨⟨k + 1, _, by omega, by go_num, rfl⟩, by simp [intOf]; omega⟩
    · go_wp2_with fail
      go_ret
      exact ⟨rfl, _, rfl⟩

theorem RefGetC_calls (b : Int) (h : RefCacheAt w p c F) : Calls Try.prog 36 #[.pointer (some ⟨p, 0, none⟩), .int .i64 b] w (Pure w (c.tok b).val) := by
  obtain ⟨lp, D, r, htk, ok⟩ := h
  rw [← htk.look ok.good b]
  exact RefGet_calls b r
theorem RefCacheAt.list (h : RefCacheAt w p c F) : ∃ lp FL, w.cell? ⟨p, 0, none⟩ = some (.pointer (some ⟨lp, 0, none⟩)) ∧ p < w.heap.size ∧ RefAt w lp c.lines FL := by
  obtain ⟨lp, D, r, htk, ok⟩ := h
  have h0 := r.cell
  obtain ⟨FL, h1, _⟩ := r.line
  exact ⟨lp, FL, h0.1, r.lt h0.2, h1⟩

set_option maxHeartbeats 4000000 in
set_option maxRecDepth 20000 in
theorem RefAll_calls (h : RefCacheAt w p c F) : Calls Try.prog 39 #[.pointer (some ⟨p, 0, none⟩)] w fun e w' => ∃ v, e = .returned v ∧ OwnSl w' 53 5 v (c.all.map Line.cells) ∧ (∀ j, v.ownBlock = some j → w.heap.size ≤ j) ∧ Below w.heap.size w w' := by
  have ok := h.ok
  have H := Lib.hid h
  have hfew0 := Lines.few ok.lines
  have hfew : c.lines.list.length ≤ 1024 := by rw [Lines.list, (List.mergeSort_perm _ _).length_eq]; exact hfew0
  obtain ⟨lp, FL, c0, lp', r1⟩ := h.list
  have R1 := Lib.hid r1
  have HLen := Lib.hid (show c.lines.all.length ≤ 100000 by omega)
  have OK := Lib.hid ok
  clear h r1 ok hfew0
  go_enter Try.func39, Try.ntmps39
  go_wp2_with fail
  refine (RefList_calls (R1.out.below (Chg.below (by repeat (first | with_reducible exact Chg.refl _ _ | with_reducible exact chg0 | with_reducible refine Chg.drewN ?_ _ | with_reducible refine Chg.drew ?_ | with_reducible refine Chg.alloc ?_ _ | with_reducible refine Chg.setCell ?_ _ _ (by first | (simp; done) | omega | (simp; omega)) | with_reducible refine Chg.setBlock ?_ _ _ (by first | (simp; done) | omega | (simp; omega)) | exact Chg.refl _ _)))) HLen.out).mono ?_
  rintro e w2 ⟨u, rfl, hu, hul, hb2⟩
  have o0 : ob w2 w.heap.size = some (.cells #[] 53 (0, 0)) := (Chg.of_below (S := fun _ => False) hb2).ob (by simp [go_sem]) (fun h => h)
  obtain ⟨A4, cap4, e4⟩ := hu.form
  rw [ints_length] at e4
  subst e4
  have hb : Below w.heap.size w w2 := below_trans (Chg.below (by repeat (first | with_reducible exact Chg.refl _ _ | with_reducible exact chg0 | with_reducible refine Chg.drewN ?_ _ | with_reducible refine Chg.drew ?_ | with_reducible refine Chg.alloc ?_ _ | with_reducible refine Chg.setCell ?_ _ _ (by first | (simp; done) | omega | (simp; omega)) | with_reducible refine Chg.setBlock ?_ _ _ (by first | (simp; done) | omega | (simp; omega)) | exact Chg.refl _ _))) hb2
  obtain ⟨L, hL⟩ : ∃ L, L = c.lines.list := ⟨_, rfl⟩
  have hall : c.all = L.map fun b => ⟨b, c.tok b⟩ := by rw [hL]; rfl
  rw [← hL] at hu hfew ⊢
  have HU := Lib.hid hu
  have HB := Lib.hid hb
  have HA := Lib.hid hall
  have hul2 : ∀ j, (Value.slice A4 L.length cap4).ownBlock = some j → w.heap.size < j := fun j hj => by have := hul j (by rw [← hL]; exact hj); simp [go_sem] at this; omega
  have HUL := Lib.hid hul2
  have O0 := Lib.hid o0
  have hlt0 := ob_lt o0
  clear hu hb hall hb2 hL hul hul2 o0
  go_wp2_with fail
  go_loopw [3, 5] (fun v i wr => ∃ k : Nat, k ≤ L.length ∧ i = .int .i64 k ∧ OwnSl wr 53 5 v (((L.take k).map fun b => (⟨b, c.tok b⟩ : Line)).map Line.cells) ∧ (∀ j, v.ownBlock = some j → j = w.heap.size ∨ w2.heap.size ≤ j) ∧ Chg (fun j => j = w.heap.size) w2 wr) (fun _ i _ => L.length - (intOf i).toNat)
  case atStart => exact ⟨0, Nat.zero_le _, rfl, OwnSl.made (c := #[]) (e := 53) (b := w.heap.size) O0.out RowsOk.nil rfl (by decide), fun j hj => .inl (by simpa [Value.ownBlock] using hj.symm), Chg.refl _ _⟩
  case round =>
    obtain ⟨k, hk, rfl, hown, hlo, hbr⟩ := hrel
    obtain ⟨Av, nv, capv, hv⟩ := hown.shape
    subst hv
    have Hown := Lib.hid hown
    have Hlo := Lib.hid hlo
    have Hbr := Lib.hid hbr
    have sr := hbr.size
    have sw := HB.out.size
    have hbw := below_chg HB.out hbr (fun j hj e => by omega)
    have HBW := Lib.hid hbw
    clear hown hlo hbw
    by_cases hlt : k < L.length
    · obtain ⟨A', cap', e', t1, t2, t3⟩ := sliceInts (HU.out.chg hbr (fun j hj e => by have := HUL.out j hj; omega)).slice
      cases e'
      obtain ⟨bb, off, rfl, hc⟩ := t3 (by omega)
      have hc2 := hc k hlt
      obtain ⟨x, hx⟩ : ∃ x, x = L.getD k 0 := ⟨_, rfl⟩
      rw [← hx] at hc2
      have htake : L.take (k + 1) = L.take k ++ [x] := by rw [hx, List.take_add_one, List.getD_eq_getElem?_getD, List.getElem?_eq_getElem hlt]; rfl
      have HTk := Lib.hid htake
      have ltk : (L.take k).length ≤ 1024 := by rw [List.length_take]; omega
      have hk0 : (0 : Int) ≤ (k : Int) := by omega
      have hk1 : (k : Int) < (L.length : Int) := by omega
      clear hc hx htake t1 t2 t3 hbr
      go_wp2_with fail
      go_region_law (first
        | (go_simp; go_at_call 36; refine (RefGetC_calls x (H.out.below (below_trans HBW.out (Chg.below (by repeat (first | with_reducible exact Chg.refl _ _ | with_reducible exact chg0 | with_reducible refine Chg.drewN ?_ _ | with_reducible refine Chg.drew ?_ | with_reducible refine Chg.alloc ?_ _ | with_reducible refine Chg.setCell ?_ _ _ (by first | (simp; done) | omega | (simp; omega)) | with_reducible refine Chg.setBlock ?_ _ _ (by first | (simp; done) | omega | (simp; omega)) | exact Chg.refl _ _)))))).mono ?_; rintro e w6 ⟨rfl, hb6⟩; simp only [Bundle.val, Bundle.cells]; have hb6' : Below wr.heap.size wr w6 := below_trans (Chg.below (by repeat (first | with_reducible exact Chg.refl _ _ | with_reducible exact chg0 | with_reducible refine Chg.drewN ?_ _ | with_reducible refine Chg.drew ?_ | with_reducible refine Chg.alloc ?_ _ | with_reducible refine Chg.setCell ?_ _ _ (by first | (simp; done) | omega | (simp; omega)) | with_reducible refine Chg.setBlock ?_ _ _ (by first | (simp; done) | omega | (simp; omega)) | exact Chg.refl _ _))) hb6; have hc6 : w6.cell? ⟨bb, off + k, none⟩ = some (.int .i64 x) := (Chg.of_below (S := fun _ => False) hb6').cell hc2 (fun h => h))
        | (refine step_append_sl (xs := ((L.take k).map fun b => (⟨b, c.tok b⟩ : Line)).map Line.cells) (ys := [(⟨x, c.tok x⟩ : Line).cells]) rfl _ _ rfl tyLines rfl rfl (Hown.out.chg (S := fun _ => False) ((Chg.of_below hb6').trans (S' := fun _ => False) (by repeat (first | with_reducible exact Chg.refl _ _ | with_reducible exact chg0 | with_reducible refine Chg.drewN ?_ _ | with_reducible refine Chg.drew ?_ | with_reducible refine Chg.alloc ?_ _ | with_reducible refine Chg.setCell ?_ _ _ (by first | (simp; done) | omega | (simp; omega)) | with_reducible refine Chg.setBlock ?_ _ _ (by first | (simp; done) | omega | (simp; omega)) | exact Chg.refl _ _)) (fun _ _ h => h)) (fun _ _ h => h)) (OwnSl.made (e := 53) (ob_alloc_new _ _ _ rfl) (lines_ok [⟨x, c.tok x⟩]) rfl (by simp)).slice (lines_ok [⟨x, c.tok x⟩]) (by simp only [List.length_map, List.length_singleton]; omega) ?_; intro v5 w5 ho hc5 hloc))
      all_goals (go_wp2_with fail)
      all_goals
        have hcc : Chg (fun j => (Value.slice Av nv capv).ownBlock = some j) wr w5 := Chg.trans (S' := fun j => (Value.slice Av nv capv).ownBlock = some j) ((Chg.of_below (S := fun j => (Value.slice Av nv capv).ownBlock = some j) hb6').trans (S' := fun _ => False) (by repeat (first | with_reducible exact Chg.refl _ _ | with_reducible exact chg0 | with_reducible refine Chg.drewN ?_ _ | with_reducible refine Chg.drew ?_ | with_reducible refine Chg.alloc ?_ _ | with_reducible refine Chg.setCell ?_ _ _ (by first | (simp; done) | omega | (simp; omega)) | with_reducible refine Chg.setBlock ?_ _ _ (by first | (simp; done) | omega | (simp; omega)) | exact Chg.refl _ _)) (fun _ _ h => h.elim)) hc5 (fun _ _ h => h)
        refine ⟨⟨k + 1, by omega, by go_num, by rw [HTk.out, List.map_append, List.map_append]; exact ho, ?_, ?_⟩, by simp [intOf]; omega⟩
        · intro j hj
          rcases hloc with h | h
          · rw [h] at hj; exact Hlo.out j hj
          · rw [h] at hj; injection hj with hj; have := hb6'.size; rw [← hj]; simp; omega
        · exact Hbr.out.trans hcc fun j hj e => (Hlo.out j e).elim id fun h => by omega
    · have htk : L.take k = L := List.take_of_length_le (by omega)
      rw [htk] at Hown
      go_wp2_with fail
      go_ret
      refine ⟨_, rfl, by rw [HA.out]; exact Hown.out, fun j hj => ?_, HBW.out⟩
      rcases Hlo.out j hj with h | h <;> omega
end
end Go.Proofs.Ytocnhmakgbdbfaa
